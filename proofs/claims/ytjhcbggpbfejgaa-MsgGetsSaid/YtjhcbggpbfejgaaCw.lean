/- The walks of codec's writer: what each function appends to the bytes. -/
import Derived.Test.YtjhcbggpbfejgaaCa
import Derived.Test.YtjhcbggpbfejgaaCp
import Derived.Deep.DeepMust
namespace Go.Proofs.Ytjhcbggpbfejgaa.Cw
open Go.RowKit Go.Proofs.zjt.zjq Go.Proofs.zjt.zjr Go.Proofs.zjt.zjs
open Go.Proofs.Ytjhcbggpbfejgaa.Cp
set_option linter.unusedVariables false
set_option linter.unusedSimpArgs false
theorem info5 : (Try.prog.info? 5).map (fun i => (i.zero, i.size, i.bytes)) = some (some (.int .u8 0), 1, 1) := by kernel_rfl
/-- A writer at block g of W that holds the bytes xs; since w nothing that was there has turned but g and what P tells. -/
structure WSt (w0 w : World) (g : Nat) (P : Nat → Prop) (W : World) (xs : List Int) : Prop where
  below : Below w0.heap.size w0 W
  kept : Kept w W (fun k => k = g ∨ P k)
  ge : w0.heap.size ≤ g
  here : ∃ v, W.heap[g]? = some (.cells #[v] 80 (0, 0)) ∧ Kd.R (Kd.int .u8) 5 W w0.heap.size (fun k => P k ∨ w.heap.size ≤ k) v xs
/-- Behind an append and the store of its result. -/
theorem WSt.put {w0 w : World} {g : Nat} {P : Nat → Prop} {wr w1 : World} {v v1 : Value} {xs ys : List Int} (hk : Kept w wr (fun k => k = g ∨ P k)) (hge : w0.heap.size ≤ g)
    (hc : wr.heap[g]? = some (.cells #[v] 80 (0, 0))) (ho : Kd.R (Kd.int .u8) 5 wr w0.heap.size (fun k => P k ∨ w.heap.size ≤ k) v xs) (ho1 : Kd.R (Kd.int .u8) 5 w1 w0.heap.size (fun k => P k ∨ w.heap.size ≤ k) v1 ys)
    (hb1 : Below w0.heap.size w0 w1) (hg1 : wr.grownBy w1 v.ownBlock) : WSt w0 w g P (w1.setCell ⟨g, 0, none⟩ v1) ys := by
  have hc1 := zbm hc hg1 (Kd.R_ne ho hc (by decide))
  refine ⟨hb1.setCell hge _, ?_, hge, v1, by simpa using zdb hc1 0 v1, Kd.zfx ho1 hc1 (by decide) 0 v1⟩
  exact (Kept.zec hg1 hk (fun k hk => (ho.1 k hk).imp_left Or.inr)).setCell (.inl (.inl rfl)) _
/-- The shape of a row. -/
theorem zcp {α : Type} {d : Kd α} {e : Nat} {w : World} {base : Nat} {ok : Nat → Prop} {v : Value} {xs : List α} (h : d.R e w base ok v xs) : ∃ A m c, v = .slice A m c := by
  obtain ⟨A, c, h⟩ := Kd.zbu h
  exact ⟨A, _, c, h⟩
theorem WSt.alloc {w0 w : World} {g : Nat} {P : Nat → Prop} {W : World} {xs : List Int} (h : WSt w0 w g P W xs) (o : Obj) : WSt w0 w g P (W.alloc o) xs := by
  obtain ⟨hb, hk, hg, v, hc, ho⟩ := h
  exact ⟨zad hb o, hk.alloc o, hg, v, zaf hc o, Kd.zcq ho (zad (Below.refl _ _) o)⟩
/-- Told anew from here on. -/
theorem WSt.rebase {w0 w : World} {g : Nat} {P : Nat → Prop} {W : World} {xs : List Int} (h : WSt w0 w g P W xs) :
    ∃ P2 : Nat → Prop, WSt w0 W g P2 W xs ∧ ∀ k, P2 k → (P k ∨ w.heap.size ≤ k) ∧ ∃ cells, W.heap[k]? = some (.cells cells 5 (0, 0)) := by
  obtain ⟨hb, hk, hg, v, hc, ho⟩ := h
  refine ⟨fun k => v.ownBlock = some k, ⟨hb, Kept.refl _ _, hg, v, hc, ?_⟩, fun k hk => ⟨ho.1 k hk, zgc (Kd.zeh ho) k hk⟩⟩
  exact Kd.zey (Kd.zeh ho) (fun k hk => .inl hk)
theorem WSt.trans {w0 w : World} {g : Nat} {P P2 : Nat → Prop} {W W' : World} {xs ys : List Int} (h : WSt w0 w g P W xs) (h2 : WSt w0 W g P2 W' ys) (hp : ∀ k, P2 k → P k ∨ w.heap.size ≤ k) : WSt w0 w g P W' ys := by
  obtain ⟨hb, hk, hg, v, hc, ho⟩ := h2
  refine ⟨hb, h.kept.zje hk ?_, hg, v, hc, Kd.zbh ho ?_⟩
  · rintro k (rfl | hk)
    · exact .inl (.inl rfl)
    · exact (hp k hk).imp_left .inr
  · rintro k (hk | hk)
    · exact hp k hk
    · exact .inr (Nat.le_trans h.kept.1 hk)
/-- Another block stays: it is no writer and no row of bytes. -/
theorem WSt.other {w0 W : World} {g : Nat} {P2 : Nat → Prop} {W' : World} {xs ys : List Int} (h : WSt w0 W g P2 W' ys) (h0 : WSt w0 W g P2 W xs) (hp : ∀ k, P2 k → ∃ cells, W.heap[k]? = some (.cells cells 5 (0, 0)))
    {b : Nat} {cs : Array Value} {t : TypeId} {fr : Nat × Nat} (hb : W.heap[b]? = some (.cells cs t fr)) (h80 : t ≠ 80) (h5 : t ≠ 5) : W'.heap[b]? = some (.cells cs t fr) := by
  obtain ⟨_, _, _, v, hc, _⟩ := h0
  refine zbr hb h.kept ?_
  rintro (rfl | hk)
  · rw [hc] at hb
    injection hb with hb
    injection hb with _ ht
    exact h80 ht.symm
  · obtain ⟨cells, hc2⟩ := hp b hk
    rw [hc2] at hb
    injection hb with hb
    injection hb with _ ht
    exact h5 ht.symm
set_option maxHeartbeats 800000 in
set_option maxRecDepth 100000 in
theorem zby (w0 w : World) (g : Nat) (P : Nat → Prop) (W : World) (xs : List Int) (n : Int) (h : WSt w0 w g P W xs) (hl : xs.length + 8 < 140737488355328) :
    Calls Try.prog 36 #[.pointer (some ⟨g, 0, none⟩), .int .i64 n] W fun e w' => e = .returned (.tuple #[]) ∧ WSt w0 w g P w' (xs ++ be8 n) := by
  have H := Aside0.mk h
  have HL := Aside0.mk hl
  clear h hl
  go_enter Try.func36, Try.ntmps36
  go_wp2
  go_loopw [4] (fun i wr => ∃ j : Nat, j ≤ 8 ∧ i = .int .i64 (56 - 8 * (j : Int)) ∧ Aside0 (WSt w0 w g P wr (xs ++ (be8 n).take j))) (fun i _ => (intOf i + 8).toNat)
  case atStart => exact ⟨0, by omega, rfl, ⟨by simpa using H.out⟩⟩
  case round =>
    obtain ⟨j, hj, rfl, HJ⟩ := hrel
    obtain ⟨i, hi⟩ : ∃ i : Int, 56 - 8 * (j : Int) = i := ⟨_, rfl⟩
    rw [hi]
    have HI := Aside0.mk hi
    by_cases c : j < 8
    · have hv : 0 ≤ i := by omega
      have hv2 : i ≤ 56 := by omega
      have hv3 : decide (0 ≤ i) = true := decide_eq_true hv
      clear hi
      obtain ⟨q, hq⟩ : ∃ q : Int, IntKind.u64.wrap n / 2 ^ i.toNat = q := ⟨_, rfl⟩
      have hq2 : IntKind.u64.wrap n / 2 ^ min i.toNat 64 = q := by rw [← hq, Nat.min_eq_left (by omega)]
      obtain ⟨hb, hk, hg, v, hc, ho⟩ := HJ.out
      have HB := Aside0.mk hb
      have HK := Aside0.mk hk
      have HG := Aside0.mk hg
      have HC := Aside0.mk hc
      have HO := Aside0.mk ho
      have hcell := (zaa hc 0).trans rfl
      clear hb hk hg hc ho
      go_wp2_with (first | ((with_reducible refine zcd (b := .append) (xs := #[.tmp 13, .tmp 20]) rfl ?_); at_builtin; go_must (refine Kd.zdd (Kd.int .u8) (w0 := w0) w0.heap.size rfl (.tmp 13) (.tmp 20) 27 5 (.int .u8 0) 1 rfl Try.underlying27 info5 rfl (by decide) (by omega) v (xs ++ (be8 n).take j) (q % 256) [.int .u8 (q % 256)] (fun k => P k ∨ w.heap.size ≤ k) (fun _ => False) rfl rfl ?aP (fun _ hk => hk.elim) ?aF ?aO ?aB ?aS ?aL ?_); (case aP => exact rfl); (case aF => exact fun k hk => .inr (Nat.le_trans HK.out.1 hk)); (case aO => exact HO.out); (case aB => exact HB.out); (case aS => exact zaz HB.out); (case aL => have := HL.out; simp [zbo]; omega); intro v1 w1 ho1 hb1 hg1 hat1; obtain ⟨A1, m1, c1, e1⟩ := zcp ho1; subst e1; have hc1 := zbm HC.out hg1 (Kd.R_ne HO.out HC.out (by decide)); have HC1 := Aside0.mk hc1; have hcell1 := (zaa hc1 0).trans rfl; have hfz1 := zab hc1 0; have HO1 := Aside0.mk ho1; have HB1 := Aside0.mk hb1; have HG1 := Aside0.mk hg1; clear hc1 ho1 hb1 hg1 hat1))
      go_roundw
      case rel => refine ⟨j + 1, by omega, ?_, ⟨?_⟩⟩
                  · have := HI.out; exact congrArg (Value.int .i64) (by omega)
                  · rw [be8_take n j c, ← List.append_assoc, ← zfs n j c, ← (show i.toNat = 56 - 8 * j by have := HI.out; omega), hq]
                    exact WSt.put HK.out HG.out HC.out HO.out HO1.out HB1.out HG1.out
      case measure => simp [intOf]; omega
    · have hv : i < 0 := by omega
      have hv3 : decide (0 ≤ i) = false := decide_eq_false (by omega)
      have hj8 : j = 8 := by omega
      clear hi
      go_wp2
      go_end0
      refine ⟨rfl, ?_⟩
      have := HJ.out
      rw [hj8] at this
      exact this
set_option maxHeartbeats 800000 in
set_option maxRecDepth 100000 in
theorem zea (w0 w : World) (g : Nat) (P : Nat → Prop) (W : World) (xs : List Int) (s : ByteArray) (h : WSt w0 w g P W xs) (hl : xs.length + (txt s).length < 140737488355328) :
    Calls Try.prog 50 #[.pointer (some ⟨g, 0, none⟩), .string s] W fun e w' => e = .returned (.tuple #[]) ∧ WSt w0 w g P w' (xs ++ txt s) := by
  have H := Aside0.mk h
  have HL := Aside0.mk hl
  rw [zdh] at HL
  clear h hl
  go_enter Try.func50, Try.ntmps50
  go_wp2_with (first
    | (go_at_call 36; go_must (refine (zby w0 w g P _ xs _ H.out (by have := HL.out; omega)).mono ?_); rintro e w' ⟨rfl, h1⟩; obtain ⟨hb, hk, hg, v, hc, ho⟩ := h1; have HB := Aside0.mk hb; have HK := Aside0.mk hk; have HG := Aside0.mk hg; have HC := Aside0.mk hc; have HO := Aside0.mk ho; have hcell := (zaa hc 0).trans rfl; clear hb hk hg hc ho)
    | (at_builtin; go_must (refine Ca.zhn (w0 := w0) w0.heap.size rfl (.tmp 12) (.tmp 13) 27 9 5 rfl Try.underlying27 Try.underlying9 info5 v (xs ++ be8 (s.size : Int)) s (fun k => P k ∨ w.heap.size ≤ k) rfl rfl ?aO ?aF ?aB ?aS ?aL ?_); (case aO => exact HO.out); (case aF => exact fun k hk => .inr (Nat.le_trans HK.out.1 hk)); (case aB => exact HB.out); (case aS => exact zaz HB.out); (case aL => have := HL.out; simp [zbo]; omega); intro v1 w1 ho1 hb1 hg1; obtain ⟨A1, m1, c1, e1⟩ := zcp ho1; subst e1; have hc1 := zbm HC.out hg1 (Kd.R_ne HO.out HC.out (by decide)); have HC1 := Aside0.mk hc1; have hcell1 := (zaa hc1 0).trans rfl; have hfz1 := zab hc1 0; have HO1 := Aside0.mk ho1; have HB1 := Aside0.mk hb1; have HG1 := Aside0.mk hg1; clear hc1 ho1 hb1 hg1))
  go_end0
  refine ⟨rfl, ?_⟩
  rw [txt, ← List.append_assoc]
  exact WSt.put HK.out HG.out HC.out HO.out HO1.out HB1.out HG1.out
set_option maxHeartbeats 800000 in
set_option maxRecDepth 100000 in
theorem listString_any (w0 w : World) (g : Nat) (P : Nat → Prop) (W : World) (xs : List Int) (A : Option Addr) (cap : Nat) (l : List ByteArray) (h : WSt w0 w g P W xs)
    (hn : ∀ W' ys, WSt w0 w g P W' ys → Kd.C Kd.string W' A l.length l) (hl : xs.length + 8 + (txts l).length < 140737488355328) :
    Calls Try.prog 64 #[.pointer (some ⟨g, 0, none⟩), .slice A l.length cap, .func (.func 50) #[.pointer (some ⟨g, 0, none⟩)] #[]] W fun e w' => e = .returned (.tuple #[]) ∧ WSt w0 w g P w' (xs ++ be8 (l.length : Int) ++ txts l) := by
  have H := Aside0.mk h
  have HL := Aside0.mk hl
  have HN := Aside0.mk hn
  have hm := Aside0.mk (hn _ _ h).2.1
  clear h hl hn
  go_enter Try.func64, Try.ntmps64
  go_wp2_with (go_at_call 36; go_must (refine (zby w0 w g P _ xs _ H.out (by have := HL.out; omega)).mono ?_); rintro e w1 ⟨rfl, h1⟩; have H1 := Aside0.mk h1; clear h1)
  go_loopw [14] (fun i wr => ∃ x : Int, i = .int .i64 x ∧ Aside0 (0 ≤ x ∧ x ≤ l.length) ∧ Aside0 (WSt w0 w g P wr (xs ++ be8 (l.length : Int) ++ txts (l.take x.toNat)))) (fun i _ => l.length - (intOf i).toNat)
  case atStart => exact ⟨0, rfl, ⟨by omega⟩, ⟨by simpa [txts] using H1.out⟩⟩
  case round =>
    obtain ⟨x, rfl, HX, HJ⟩ := hrel
    have hmx := hm.out
    obtain ⟨hx0, hx1⟩ := HX.out
    by_cases c : x < l.length
    · have c0 : decide (0 ≤ x) = true := decide_eq_true hx0
      have c1 : decide (x < (l.length : Int)) = true := decide_eq_true c
      obtain ⟨ad, e, hcell⟩ := Kd.zif (HN.out _ _ HJ.out) x hx0 c
      cases e
      go_wp2_with (go_at_call 50; go_must (refine (zea w0 w g P _ _ _ HJ.out ?bd).mono ?_); (case bd => have := HL.out; have h2 := txts_split l x.toNat (by omega); simp only [List.length_append, zbo]; simp only [rdOf] at *; omega); rintro e w2 ⟨rfl, h2⟩; have H2 := Aside0.mk h2; clear h2)
      go_roundw
      case rel =>
        refine ⟨x + 1, rfl, ⟨by omega⟩, ⟨?_⟩⟩
        rw [show (x + 1).toNat = x.toNat + 1 by omega, zhy l x.toNat (by omega), ← List.append_assoc]
        exact H2.out
      case measure => simp [intOf]; omega
    · have c1 : decide (x < (l.length : Int)) = false := decide_eq_false c
      go_wp2
      go_end0
      have h2 := HJ.out
      rw [List.take_of_length_le (by omega), List.append_assoc] at h2
      exact ⟨rfl, h2⟩
set_option maxHeartbeats 800000 in
set_option maxRecDepth 100000 in
theorem listInt_any (w0 w : World) (g : Nat) (P : Nat → Prop) (W : World) (xs : List Int) (A : Option Addr) (cap : Nat) (l : List Int) (h : WSt w0 w g P W xs)
    (hn : ∀ W' ys, WSt w0 w g P W' ys → Kd.C (Kd.int .i64) W' A l.length l) (hl : xs.length + 8 + (nums8 l).length < 140737488355328) :
    Calls Try.prog 37 #[.pointer (some ⟨g, 0, none⟩), .slice A l.length cap, .func (.func 36) #[.pointer (some ⟨g, 0, none⟩)] #[]] W fun e w' => e = .returned (.tuple #[]) ∧ WSt w0 w g P w' (xs ++ be8 (l.length : Int) ++ nums8 l) := by
  have H := Aside0.mk h
  have HL := Aside0.mk hl
  have HN := Aside0.mk hn
  have hm := Aside0.mk (hn _ _ h).2.1
  clear h hl hn
  go_enter Try.func37, Try.ntmps37
  go_wp2_with (go_at_call 36; go_must (refine (zby w0 w g P _ xs _ H.out (by have := HL.out; omega)).mono ?_); rintro e w1 ⟨rfl, h1⟩; have H1 := Aside0.mk h1; clear h1)
  go_loopw [14] (fun i wr => ∃ x : Int, i = .int .i64 x ∧ Aside0 (0 ≤ x ∧ x ≤ l.length) ∧ Aside0 (WSt w0 w g P wr (xs ++ be8 (l.length : Int) ++ nums8 (l.take x.toNat)))) (fun i _ => l.length - (intOf i).toNat)
  case atStart => exact ⟨0, rfl, ⟨by omega⟩, ⟨by simpa [nums8] using H1.out⟩⟩
  case round =>
    obtain ⟨x, rfl, HX, HJ⟩ := hrel
    have hmx := hm.out
    obtain ⟨hx0, hx1⟩ := HX.out
    by_cases c : x < l.length
    · have c0 : decide (0 ≤ x) = true := decide_eq_true hx0
      have c1 : decide (x < (l.length : Int)) = true := decide_eq_true c
      obtain ⟨ad, e, hcell⟩ := Kd.zfg (HN.out _ _ HJ.out) x hx0 c
      cases e
      go_wp2_with (go_at_call 36; go_must (refine (zby w0 w g P _ _ _ HJ.out ?bd).mono ?_); (case bd => have := HL.out; have h2 := nums8_split l x.toNat (by omega); simp only [List.length_append, zbo]; simp only [zbo] at h2; omega); rintro e w2 ⟨rfl, h2⟩; have H2 := Aside0.mk h2; clear h2)
      go_roundw
      case rel =>
        refine ⟨x + 1, rfl, ⟨by omega⟩, ⟨?_⟩⟩
        rw [show (x + 1).toNat = x.toNat + 1 by omega, zhi l x.toNat (by omega), ← List.append_assoc]
        exact H2.out
      case measure => simp [intOf]; omega
    · have c1 : decide (x < (l.length : Int)) = false := decide_eq_false c
      go_wp2
      go_end0
      have h2 := HJ.out
      rw [List.take_of_length_le (by omega), List.append_assoc] at h2
      exact ⟨rfl, h2⟩
theorem C_of_blk {w : World} {b t : Nat} {fr : Nat × Nat} (l : List ByteArray) (hb : w.heap[b]? = some (.cells (l.map Value.string).toArray t fr)) (hl : l.length ≤ 9223372036854775807) : Kd.C Kd.string w (some ⟨b, 0, none⟩) l.length l := by
  refine Kd.zgr (d := ByteArray.empty) ⟨rfl, hl, fun _ => ⟨_, rfl, fun j hj => ?_⟩⟩
  rw [add_plain, cell_of_row w b j _ _ _ hb]
  simp [List.getD_eq_getElem?_getD, hj]
/-- A command's value. -/
abbrev cmdV (c : Cmd) (A : Option Addr) (cap : Nat) : Value := .agg #[.int .i64 c.op, .string c.book, .string c.name, .string c.data, .string c.mat, .string c.non, .string c.token, .slice A c.names.length cap, .int .i64 c.at_, .int .i64 c.session, .int .i64 c.seq]
def cmdC (c : Cmd) (A : Option Addr) (cap : Nat) : Array Value := #[.int .i64 c.op, .string c.book, .string c.name, .string c.data, .string c.mat, .string c.non, .string c.token, .slice A c.names.length cap, .int .i64 c.at_, .int .i64 c.session, .int .i64 c.seq]
set_option maxHeartbeats 1600000 in
set_option maxRecDepth 100000 in
theorem zef (w0 w : World) (g : Nat) (P : Nat → Prop) (W : World) (xs : List Int) (c : Cmd) (A : Option Addr) (cap : Nat) (h : WSt w0 w g P W xs)
    (hn : ∀ W' ys, WSt w0 w g P W' ys → Kd.C Kd.string W' A c.names.length c.names) (hl : xs.length + (enc c).length < 140737488355328) :
    Calls Try.prog 32 #[.pointer (some ⟨g, 0, none⟩), cmdV c A cap] W fun e w' => e = .returned (.tuple #[]) ∧ WSt w0 w g P w' (xs ++ enc c) := by
  obtain ⟨P2, h2, hp2⟩ := (h.alloc (.cells (cmdC c A cap) 25)).rebase
  have H0 := Aside0.mk (h.alloc (.cells (cmdC c A cap) 25))
  have H2 := Aside0.mk h2
  have HP2 := Aside0.mk hp2
  have HN := Aside0.mk hn
  rw [zhk] at hl
  have HL := Aside0.mk hl
  have HX := Aside0.mk (zbt W (.cells (cmdC c A cap) 25))
  clear h hn hl h2 hp2
  unfold cmdV
  unfold cmdC at *
  go_enter Try.func32, Try.ntmps32
  go_wp2_with (go_at_call 36; go_must (refine (zby w0 _ g P2 _ xs _ H2.out (by have := HL.out; omega)).mono ?_); rintro e w1 ⟨rfl, h1⟩; have hb1 := h1.other H2.out (fun k hk => (HP2.out k hk).2) HX.out (by decide) (by decide); have HX1 := Aside0.mk hb1; have c1 := (zaa hb1 1).trans rfl; have c2 := (zaa hb1 2).trans rfl; have c3 := (zaa hb1 3).trans rfl; have c4 := (zaa hb1 4).trans rfl; have c5 := (zaa hb1 5).trans rfl; have c6 := (zaa hb1 6).trans rfl; have H1 := Aside0.mk h1; clear h1 hb1)
  obtain ⟨P3, h3, hp3⟩ := (H1.out.alloc (.cells #[.string c.book, .string c.name, .string c.data, .string c.mat, .string c.non, .string c.token] 9)).rebase
  have H3 := Aside0.mk h3
  have H2' := Aside0.mk (H1.out.alloc (.cells #[.string c.book, .string c.name, .string c.data, .string c.mat, .string c.non, .string c.token] 9))
  have HP3 := Aside0.mk hp3
  have HA3 := Aside0.mk (zbt w1 (.cells #[.string c.book, .string c.name, .string c.data, .string c.mat, .string c.non, .string c.token] 9))
  have HX3 := Aside0.mk (zaf HX1.out (.cells #[.string c.book, .string c.name, .string c.data, .string c.mat, .string c.non, .string c.token] 9))
  clear h3 hp3 c1 c2 c3 c4 c5 c6
  go_loopw [24] (fun i wr => ∃ x : Int, i = .int .i64 x ∧ Aside0 (0 ≤ x ∧ x ≤ 6) ∧ Aside0 (WSt w0 (w1.alloc (.cells #[.string c.book, .string c.name, .string c.data, .string c.mat, .string c.non, .string c.token] 9)) g P3 wr (xs ++ be8 c.op ++ txts (c.six.take x.toNat)))) (fun i _ => 6 - (intOf i).toNat)
  case atStart => exact ⟨0, rfl, ⟨by omega⟩, ⟨by simpa [txts] using H3.out⟩⟩
  case round =>
    obtain ⟨x, rfl, HQ, HJ⟩ := hrel
    obtain ⟨hx0, hx1⟩ := HQ.out
    have HAr := Aside0.mk (HJ.out.other H3.out (fun k hk => (HP3.out k hk).2) HA3.out (by decide) (by decide))
    by_cases c9 : x < 6
    · have c1 : decide (x < (6 : Int)) = true := decide_eq_true c9
      have hcell := (Kd.zif (C_of_blk c.six HAr.out (by simp [Cmd.six])) x hx0 c9)
      obtain ⟨ad, e, hcell⟩ := hcell
      cases e
      rw [add_plain] at hcell
      go_wp2_with (go_at_call 50; go_must (refine (zea w0 _ g P3 _ _ _ HJ.out ?bd).mono ?_); (case bd => have := HL.out; have h2 := txts_split c.six x.toNat (by simp [Cmd.six]; omega); simp only [List.length_append, zbo]; simp only [rdOf] at *; omega); rintro e w2 ⟨rfl, h2⟩; have H2 := Aside0.mk h2; clear h2)
      go_roundw
      case rel =>
        refine ⟨x + 1, rfl, ⟨by omega⟩, ⟨?_⟩⟩
        rw [show (x + 1).toNat = x.toNat + 1 by omega, zhy c.six x.toNat (by simp [Cmd.six]; omega), ← List.append_assoc]
        exact H2.out
      case measure => simp [intOf]; omega
    · have c1 : decide (x < (6 : Int)) = false := decide_eq_false c9
      have e6 : c.six.take x.toNat = c.six := List.take_of_length_le (by simp [Cmd.six]; omega)
      have HX4 := Aside0.mk (HJ.out.other H3.out (fun k hk => (HP3.out k hk).2) HX3.out (by decide) (by decide))
      have H4 := Aside0.mk HJ.out
      rw [e6] at H4
      have d7 := (zaa HX4.out 7).trans rfl
      clear e6
      go_wp2_with (first
        | (go_at_call 64; go_must (refine (listString_any w0 _ g P3 _ (xs ++ be8 c.op ++ txts c.six) A cap c.names H4.out ?hn ?bd2).mono ?_); (case hn => exact fun W' ys h => HN.out _ _ (H0.out.trans (H2'.out.trans h (fun k hk => (HP3.out k hk).1)) (fun k hk => (HP2.out k hk).1))); (case bd2 => have := HL.out; simp only [List.length_append, zbo]; omega); rintro e w4 ⟨rfl, h5⟩; have H5 := Aside0.mk h5; have hb5 := h5.other H3.out (fun k hk => (HP3.out k hk).2) HX3.out (by decide) (by decide); have c8 := (zaa hb5 8).trans rfl; have HX5 := Aside0.mk hb5; clear h5 hb5)
        | (go_at_call 36; (with_reducible refine (zby w0 _ g P3 w4 (xs ++ be8 c.op ++ txts c.six ++ be8 (c.names.length : Int) ++ txts c.names) c.at_ H5.out ?bd3).mono ?_); (case bd3 => have := HL.out; simp only [List.length_append, zbo]; omega); rintro e w5 ⟨rfl, h6⟩; have H6 := Aside0.mk h6; have hb6 := h6.other H3.out (fun k hk => (HP3.out k hk).2) HX3.out (by decide) (by decide); have c9 := (zaa hb6 9).trans rfl; have HX6 := Aside0.mk hb6; clear h6 hb6)
        | (go_at_call 36; (with_reducible refine (zby w0 _ g P3 w5 (xs ++ be8 c.op ++ txts c.six ++ be8 (c.names.length : Int) ++ txts c.names ++ be8 c.at_) c.session H6.out ?bd4).mono ?_); (case bd4 => have := HL.out; simp only [List.length_append, zbo]; omega); rintro e w6 ⟨rfl, h7⟩; have H7 := Aside0.mk h7; have hb7 := h7.other H3.out (fun k hk => (HP3.out k hk).2) HX3.out (by decide) (by decide); have c10 := (zaa hb7 10).trans rfl; have HX7 := Aside0.mk hb7; clear h7 hb7)
        | (go_at_call 36; (with_reducible refine (zby w0 _ g P3 w6 (xs ++ be8 c.op ++ txts c.six ++ be8 (c.names.length : Int) ++ txts c.names ++ be8 c.at_ ++ be8 c.session) c.seq H7.out ?bd5).mono ?_); (case bd5 => have := HL.out; simp only [List.length_append, zbo]; omega); rintro e w7 ⟨rfl, h8⟩; have H8 := Aside0.mk h8; clear h8))
      go_end0
      have h9 := H0.out.trans (H2'.out.trans H8.out (fun k hk => (HP3.out k hk).1)) (fun k hk => (HP2.out k hk).1)
      refine ⟨rfl, ?_⟩
      simpa [enc, List.append_assoc] using h9
theorem WSt.begin {w W : World} (hB : Below w.heap.size w W) : WSt w (W.alloc (.cells #[.slice none 0 0] 80)) W.heap.size (fun _ => False) (W.alloc (.cells #[.slice none 0 0] 80)) [] :=
  ⟨zad hB _, Kept.refl _ _, hB.size, .slice none 0 0, zbt W _, Kd.zdf _ _ _ _ _⟩
theorem WSt.start (w : World) (o : Obj) : WSt w ((w.alloc o).alloc (.cells #[.slice none 0 0] 80)) (w.heap.size + 1) (fun _ => False) ((w.alloc o).alloc (.cells #[.slice none 0 0] 80)) [] := by
  refine ⟨zad (zad (Below.refl _ _) _) _, Kept.refl _ _, by omega, .slice none 0 0, ?_, Kd.zdf _ _ _ _ _⟩
  have := zbt (w.alloc o) (.cells #[.slice none 0 0] 80)
  simpa using this
set_option maxHeartbeats 800000 in
set_option maxRecDepth 100000 in
theorem PutCommand_any (c : Cmd) (A : Option Addr) (cap : Nat) (w : World) (hn : Kd.C Kd.string w A c.names.length c.names) (hl : (enc c).length < 140737488355328) :
    Calls Try.prog 12 #[cmdV c A cap] w fun e w' => ∃ v : Value, e = .returned v ∧ Kd.R (Kd.int .u8) 5 w' w.heap.size (fun _ => True) v (enc c) ∧ Below w.heap.size w w' := by
  have H0 := Aside0.mk (WSt.start w (.cells (cmdC c A cap) 25))
  have HL := Aside0.mk hl
  have HN := Aside0.mk hn
  clear hl hn
  unfold cmdC at H0
  unfold cmdV
  go_enter Try.func12, Try.ntmps12
  go_wp2_with (go_at_call 32; go_must (refine (zef w _ _ _ _ [] c A cap H0.out ?hn ?bd).mono ?_); (case hn => exact fun W' ys h => Kd.zci HN.out h.below); (case bd => simpa using HL.out); rintro e w1 ⟨rfl, h1⟩; obtain ⟨hb, hk, hg, v, hc, ho⟩ := h1; obtain ⟨A1, m1, c1, e1⟩ := zcp ho; subst e1; have HB := Aside0.mk hb; have HO := Aside0.mk ho; have hcell := (zaa hc 0).trans rfl; clear hb hk hg hc ho)
  go_ret
  exact ⟨_, rfl, by simpa using Kd.zbh HO.out (fun _ _ => trivial), HB.out⟩
end Go.Proofs.Ytjhcbggpbfejgaa.Cw
