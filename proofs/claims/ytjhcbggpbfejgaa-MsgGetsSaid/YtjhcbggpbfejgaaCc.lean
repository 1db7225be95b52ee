/- The walks of codec's reader: lists and commands. -/
import Derived.Test.YtjhcbggpbfejgaaCm
import Derived.Deep.QuietTactic
import Derived.Deep.RegionWith
import Derived.Deep.RegionLaw
namespace Go.Proofs.Ytjhcbggpbfejgaa.Cr
open Go.Proofs.Ytjhcbggpbfejgaa.Cw
open Go.RowKit Go.Proofs.zjt.zjq Go.Proofs.zjt.zjr Go.Proofs.zjt.zjs
open Go.Proofs.Ytjhcbggpbfejgaa.Cp
set_option linter.unusedVariables false
set_option linter.unusedSimpArgs false
theorem RSt.other {w0 W W1 : World} {g b t : Nat} {s : St} {cs : Array Value} (h : RSt w0 W g s) (hk : KeepBut W W1 g none) (hb : W.heap[b]? = some (.cells cs t (0, 0))) (ht : t ≠ 84) : W1.heap[b]? = some (.cells cs t (0, 0)) := by
  obtain ⟨A, c, hg, _⟩ := h
  exact hk.blk hb (zih hb hg ht) (by simp)
theorem RSt.far {w0 W : World} {g b j : Nat} {s : St} (h : RSt w0 W g s) (hne : g ≠ b) (hb : w0.heap.size ≤ b) (v : Value) : RSt w0 (W.setCell ⟨b, j, none⟩ v) g s := by
  obtain ⟨A, c, hg, hge, hc, hl, hB⟩ := h
  exact ⟨A, c, zbi hg hne v, hge, hc, hl, zah hB hb⟩
theorem RSt.alloc {w0 W : World} {g : Nat} {s : St} (h : RSt w0 W g s) (o : Obj) : RSt w0 (W.alloc o) g s := by
  obtain ⟨A, c, hg, hge, hc, hl, hB⟩ := h
  exact ⟨A, c, zaf hg o, hge, hc, hl, zad hB o⟩
theorem info25 : (Try.prog.info? 25).map (·.size) = some 11 := by kernel_rfl
/-- The cells of a command that is being read. -/
abbrev partC (op : Int) (l : List ByteArray) : Array Value := #[.int .i64 op, .string (l.getD 0 ⟨#[]⟩), .string (l.getD 1 ⟨#[]⟩), .string (l.getD 2 ⟨#[]⟩), .string (l.getD 3 ⟨#[]⟩), .string (l.getD 4 ⟨#[]⟩), .string (l.getD 5 ⟨#[]⟩), .slice none 0 0, .int .i64 0, .int .i64 0, .int .i64 0]
/-- n of the six texts are read: the command lies at C, the pointers to its texts behind it. -/
def Six (w0 W : World) (C : Nat) (g : Nat) (s : St) (n : Nat) (wr : World) : Prop := ∃ (l : List ByteArray) (t : St), l.length = 6 ∧ (l.take n ++ (rep (6 - n) t).1, (rep (6 - n) t).2) = rep 6 (numR s).2 ∧
  wr.heap[C]? = some (.cells (partC (wrap64 (raw s).1) l) 25 (0, 0)) ∧ wr.heap[C + 1]? = some (.cells #[.pointer (some ⟨C, 1, none⟩), .pointer (some ⟨C, 2, none⟩), .pointer (some ⟨C, 3, none⟩), .pointer (some ⟨C, 4, none⟩), .pointer (some ⟨C, 5, none⟩), .pointer (some ⟨C, 6, none⟩)] 117 (0, 0)) ∧ wr.heap[W.heap.size]? = some (.cells #[.int .i64 0, .string ⟨#[]⟩, .string ⟨#[]⟩, .string ⟨#[]⟩, .string ⟨#[]⟩, .string ⟨#[]⟩, .string ⟨#[]⟩, .slice none 0 0, .int .i64 0, .int .i64 0, .int .i64 0] 25 (0, 0)) ∧ RSt w0 wr g t ∧ KeepBut W wr g none ∧ Bs t.1 ∧ t.1.length ≤ s.1.length
theorem Six.step {w0 W w5 : World} {C g n : Nat} {s t : St} {l : List ByteArray} (hn : n < 6) (hl : l.length = 6) (hm : (l.take n ++ (rep (6 - n) t).1, (rep (6 - n) t).2) = rep 6 (numR s).2)
    (hc : w5.heap[C]? = some (.cells (partC (wrap64 (raw s).1) l) 25 (0, 0))) (hp : w5.heap[C + 1]? = some (.cells #[.pointer (some ⟨C, 1, none⟩), .pointer (some ⟨C, 2, none⟩), .pointer (some ⟨C, 3, none⟩), .pointer (some ⟨C, 4, none⟩), .pointer (some ⟨C, 5, none⟩), .pointer (some ⟨C, 6, none⟩)] 117 (0, 0))) (hr : w5.heap[W.heap.size]? = some (.cells #[.int .i64 0, .string ⟨#[]⟩, .string ⟨#[]⟩, .string ⟨#[]⟩, .string ⟨#[]⟩, .string ⟨#[]⟩, .string ⟨#[]⟩, .slice none 0 0, .int .i64 0, .int .i64 0, .int .i64 0] 25 (0, 0)))
    (ht : RSt w0 w5 g (txtR t).2) (hk : KeepBut W w5 g none) (hb : Bs t.1 ∧ t.1.length ≤ s.1.length) (hC : W.heap.size < C ∧ g < W.heap.size) (h0 : w0.heap.size ≤ W.heap.size) :
    Six w0 W C g s (n + 1) (w5.setCell ⟨C, n + 1, none⟩ (.string (txtR t).1)) := by
  refine ⟨l.set n (txtR t).1, (txtR t).2, by simpa using hl, ?_, ?_, zbi hp (by show C + 1 ≠ C; omega) _, zbi hr (by show W.heap.size ≠ C; omega) _, ht.far (by omega) (by omega) _, zbg hk (by show W.heap.size ≤ C; omega) _, zhh _ hb.1, Nat.le_trans (zgt _) hb.2⟩
  · rw [← hm, show 6 - n = (6 - (n + 1)) + 1 by omega, rep, List.take_succ_eq_append_getElem (by simpa using (by omega : n < l.length))]
    simp [List.take_set_of_le]
  · rw [zdb hc (n + 1) (.string (txtR t).1)]
    match l, hl, n, hn with
    | [a, b, c, d, e, f], _, 0, _ => rfl
    | [a, b, c, d, e, f], _, 1, _ => rfl
    | [a, b, c, d, e, f], _, 2, _ => rfl
    | [a, b, c, d, e, f], _, 3, _ => rfl
    | [a, b, c, d, e, f], _, 4, _ => rfl
    | [a, b, c, d, e, f], _, 5, _ => rfl
/-- What command leaves. -/
def CmdOut (w0 W : World) (g : Nat) (r : Cmd × St) (e : Ending) (w' : World) : Prop :=
  ∃ A cap, e = .returned (cmdV r.1 A cap) ∧ Kd.R Kd.string 9 w' w0.heap.size (fun k => W.heap.size ≤ k) (.slice A r.1.names.length cap) r.1.names ∧ RSt w0 w' g r.2 ∧ KeepBut W w' g none
set_option maxHeartbeats 1600000 in
set_option maxRecDepth 100000 in
theorem zef (w0 W : World) (g : Nat) (s : St) (h : RSt w0 W g s) (hs : Bs s.1) (hl : s.1.length ≤ 1099511627776) :
    Calls Try.prog 33 #[.pointer (some ⟨g, 0, none⟩)] W (CmdOut w0 W g (cmdR s)) := by
  have H := Aside0.mk h
  have HS := Aside0.mk hs
  have HL := Aside0.mk hl
  clear h hs hl
  go_enter Try.func33, Try.ntmps33
  go_wp2_with (go_at_call 38; (with_reducible refine (zby w0 _ g s (H.out.alloc _) HS.out).mono ?_); rintro e w1 ⟨rfl, h1, hk1⟩; have H1 := Aside0.mk h1; have HK1 := Aside0.mk hk1; clear h1 hk1)
  have HT0 := Aside0.mk ((H1.out.alloc (.cells (partC (wrap64 (raw s).1) [⟨#[]⟩, ⟨#[]⟩, ⟨#[]⟩, ⟨#[]⟩, ⟨#[]⟩, ⟨#[]⟩]) 25)).alloc (.cells #[.pointer (some ⟨w1.heap.size, 1, none⟩), .pointer (some ⟨w1.heap.size, 2, none⟩), .pointer (some ⟨w1.heap.size, 3, none⟩), .pointer (some ⟨w1.heap.size, 4, none⟩), .pointer (some ⟨w1.heap.size, 5, none⟩), .pointer (some ⟨w1.heap.size, 6, none⟩)] 117))
  have HC0 := Aside0.mk (zaf (zbt w1 (.cells (partC (wrap64 (raw s).1) [⟨#[]⟩, ⟨#[]⟩, ⟨#[]⟩, ⟨#[]⟩, ⟨#[]⟩, ⟨#[]⟩]) 25)) (.cells #[.pointer (some ⟨w1.heap.size, 1, none⟩), .pointer (some ⟨w1.heap.size, 2, none⟩), .pointer (some ⟨w1.heap.size, 3, none⟩), .pointer (some ⟨w1.heap.size, 4, none⟩), .pointer (some ⟨w1.heap.size, 5, none⟩), .pointer (some ⟨w1.heap.size, 6, none⟩)] 117))
  have HP0 : Aside0 (((w1.alloc (.cells (partC (wrap64 (raw s).1) [⟨#[]⟩, ⟨#[]⟩, ⟨#[]⟩, ⟨#[]⟩, ⟨#[]⟩, ⟨#[]⟩]) 25)).alloc (.cells #[.pointer (some ⟨w1.heap.size, 1, none⟩), .pointer (some ⟨w1.heap.size, 2, none⟩), .pointer (some ⟨w1.heap.size, 3, none⟩), .pointer (some ⟨w1.heap.size, 4, none⟩), .pointer (some ⟨w1.heap.size, 5, none⟩), .pointer (some ⟨w1.heap.size, 6, none⟩)] 117)).heap[w1.heap.size + 1]? = some (.cells #[.pointer (some ⟨w1.heap.size, 1, none⟩), .pointer (some ⟨w1.heap.size, 2, none⟩), .pointer (some ⟨w1.heap.size, 3, none⟩), .pointer (some ⟨w1.heap.size, 4, none⟩), .pointer (some ⟨w1.heap.size, 5, none⟩), .pointer (some ⟨w1.heap.size, 6, none⟩)] 117 (0, 0))) := ⟨by simpa using zbt (w1.alloc (.cells (partC (wrap64 (raw s).1) [⟨#[]⟩, ⟨#[]⟩, ⟨#[]⟩, ⟨#[]⟩, ⟨#[]⟩, ⟨#[]⟩]) 25)) (.cells #[.pointer (some ⟨w1.heap.size, 1, none⟩), .pointer (some ⟨w1.heap.size, 2, none⟩), .pointer (some ⟨w1.heap.size, 3, none⟩), .pointer (some ⟨w1.heap.size, 4, none⟩), .pointer (some ⟨w1.heap.size, 5, none⟩), .pointer (some ⟨w1.heap.size, 6, none⟩)] 117)⟩
  have hz1 := HK1.out.1
  have hgW := H.out.lt
  have HR1 := (H.out.alloc (.cells #[.int .i64 0, .string ⟨#[]⟩, .string ⟨#[]⟩, .string ⟨#[]⟩, .string ⟨#[]⟩, .string ⟨#[]⟩, .string ⟨#[]⟩, .slice none 0 0, .int .i64 0, .int .i64 0, .int .i64 0] 25)).other HK1.out (zbt W (.cells #[.int .i64 0, .string ⟨#[]⟩, .string ⟨#[]⟩, .string ⟨#[]⟩, .string ⟨#[]⟩, .string ⟨#[]⟩, .string ⟨#[]⟩, .slice none 0 0, .int .i64 0, .int .i64 0, .int .i64 0] 25)) (by decide)
  have HZ := Aside0.mk (show W.heap.size < w1.heap.size ∧ g < W.heap.size by simp at hz1; omega)
  have HR0 := Aside0.mk (zaf (zaf HR1 (.cells (partC (wrap64 (raw s).1) [⟨#[]⟩, ⟨#[]⟩, ⟨#[]⟩, ⟨#[]⟩, ⟨#[]⟩, ⟨#[]⟩]) 25)) (.cells #[.pointer (some ⟨w1.heap.size, 1, none⟩), .pointer (some ⟨w1.heap.size, 2, none⟩), .pointer (some ⟨w1.heap.size, 3, none⟩), .pointer (some ⟨w1.heap.size, 4, none⟩), .pointer (some ⟨w1.heap.size, 5, none⟩), .pointer (some ⟨w1.heap.size, 6, none⟩)] 117))
  have HK0 := Aside0.mk (zar (zar ((zar (KeepBut.refl W g none) (.cells #[.int .i64 0, .string ⟨#[]⟩, .string ⟨#[]⟩, .string ⟨#[]⟩, .string ⟨#[]⟩, .string ⟨#[]⟩, .string ⟨#[]⟩, .slice none 0 0, .int .i64 0, .int .i64 0, .int .i64 0] 25)).trans HK1.out (.inl rfl)) (.cells (partC (wrap64 (raw s).1) [⟨#[]⟩, ⟨#[]⟩, ⟨#[]⟩, ⟨#[]⟩, ⟨#[]⟩, ⟨#[]⟩]) 25)) (.cells #[.pointer (some ⟨w1.heap.size, 1, none⟩), .pointer (some ⟨w1.heap.size, 2, none⟩), .pointer (some ⟨w1.heap.size, 3, none⟩), .pointer (some ⟨w1.heap.size, 4, none⟩), .pointer (some ⟨w1.heap.size, 5, none⟩), .pointer (some ⟨w1.heap.size, 6, none⟩)] 117))
  clear hz1 hgW HR1
  have H60 := Aside0.mk (show 0 ≤ 6 from by decide)
  go_loopw [17] (fun i wr => ∃ (x : Int), i = .int .i64 x ∧ Aside0 (0 ≤ x ∧ x ≤ 6) ∧ Aside0 (Six w0 W w1.heap.size g s x.toNat wr)) (fun i _ => (6 - intOf i).toNat)
  case atStart => exact ⟨0, rfl, ⟨by omega⟩, ⟨[⟨#[]⟩, ⟨#[]⟩, ⟨#[]⟩, ⟨#[]⟩, ⟨#[]⟩, ⟨#[]⟩], (numR s).2, rfl, rfl, HC0.out, HP0.out, HR0.out, HT0.out, HK0.out, zcw s HS.out, zgw s⟩⟩
  case round =>
    obtain ⟨x, rfl, HX, HSix⟩ := hrel
    obtain ⟨hx0, hx1⟩ := HX.out
    obtain ⟨l, t, hl, hm, hc, hp, hr, ht, hk, hb⟩ := HSix.out
    have p0 := (zaa hp 0).trans rfl
    have p1 := (zaa hp 1).trans rfl
    have p2 := (zaa hp 2).trans rfl
    have p3 := (zaa hp 3).trans rfl
    have p4 := (zaa hp 4).trans rfl
    have p5 := (zaa hp 5).trans rfl
    have HLL := Aside0.mk hl
    have HM := Aside0.mk hm
    have HC := Aside0.mk hc
    have HP := Aside0.mk hp
    have HR := Aside0.mk hr
    have HT := Aside0.mk ht
    have HK := Aside0.mk hk
    have HB := Aside0.mk hb
    clear hl hm hc hp hr ht hk hb
    by_cases cx : x < 6
    · have hx : x = 0 ∨ x = 1 ∨ x = 2 ∨ x = 3 ∨ x = 4 ∨ x = 5 := by omega
      clear hx0 hx1 cx
      rcases hx with rfl | rfl | rfl | rfl | rfl | rfl
      all_goals
        go_wp2_with (go_at_call 41; (with_reducible refine (zea w0 _ g t HT.out HB.out.1).mono ?_); rintro e w5 ⟨rfl, h5, hk5⟩; have hc5 := HT.out.other hk5 HC.out (by decide); have HC5 := Aside0.mk hc5; have HP5 := Aside0.mk (HT.out.other hk5 HP.out (by decide)); have HR5 := Aside0.mk (HT.out.other hk5 HR.out (by decide)); have HT5 := Aside0.mk h5; have HK5 := Aside0.mk (HK.out.trans hk5 (.inl rfl)); have q1 := (zaa hc5 1).trans rfl; have q2 := (zaa hc5 2).trans rfl; have q3 := (zaa hc5 3).trans rfl; have q4 := (zaa hc5 4).trans rfl; have q5 := (zaa hc5 5).trans rfl; have q6 := (zaa hc5 6).trans rfl; have f1 := zab hc5 1; have f2 := zab hc5 2; have f3 := zab hc5 3; have f4 := zab hc5 4; have f5 := zab hc5 5; have f6 := zab hc5 6; clear hc5 h5 hk5)
        go_roundw
        case rel =>
          refine ⟨_, rfl, ⟨by omega⟩, ⟨?_⟩⟩
          refine Six.step (by omega) HLL.out HM.out HC5.out HP5.out HR5.out HT5.out HK5.out HB.out HZ.out (by have := H.out.below.size; exact this)
        case measure => simp [intOf]
    · have e6 : x = 6 := by omega
      subst e6
      clear hx0 hx1 cx p0 p1 p2 p3 p4 p5
      have HE := Aside0.mk (show l = (rep 6 (numR s).2).1 ∧ t = (rep 6 (numR s).2).2 by
        have h := HM.out
        rw [show (6 - (6 : Int).toNat) = 0 from rfl, List.take_of_length_le (by rw [HLL.out]; decide)] at h
        rw [← h]
        exact ⟨by simp [rep], rfl⟩)
      clear HM
      go_wp2_with (first
        | (go_at_call 65; (with_reducible refine (manyString_any w0 _ g t HT.out HB.out.1 (Nat.le_trans HB.out.2 HL.out)).mono ?_); rintro e w5 ⟨v5, rfl, ho5, h5, hk5⟩; obtain ⟨A5, c5, e5⟩ := Kd.zbu ho5; subst e5; have HO5 := Aside0.mk ho5; have hc5 := HT.out.other hk5 HC.out (by decide); have HC5 := Aside0.mk hc5; have HR5 := Aside0.mk (HT.out.other hk5 HR.out (by decide)); have HT5 := Aside0.mk h5; have HK5 := Aside0.mk (HK.out.trans hk5 (.inl rfl)); have q7 := (zaa hc5 7).trans rfl; have f7 := zab hc5 7; clear hc5 h5 hk5 ho5)
        | (go_at_call 38; (with_reducible refine (zby w0 _ g (many txtR t).2 (HT5.out.far (b := w1.heap.size) (j := 7) (by have := HZ.out; omega) (by have := HZ.out; have := H.out.below.size; omega) (.slice A5 (many txtR t).1.length c5)) (zin _ zhh _ HB.out.1)).mono ?_); rintro e w6 ⟨rfl, h6, hk6⟩; have HT6 := Aside0.mk (show RSt w0 w6 g (numR (many txtR t).2).2 from h6); have HC6 := Aside0.mk (RSt.other (HT5.out.far (b := w1.heap.size) (j := 7) (by have := HZ.out; omega) (by have := HZ.out; have := H.out.below.size; omega) (.slice A5 (many txtR t).1.length c5)) hk6 (zdb HC5.out 7 (.slice A5 (many txtR t).1.length c5)) (by decide)); have HR6 := Aside0.mk (RSt.other (HT5.out.far (b := w1.heap.size) (j := 7) (by have := HZ.out; omega) (by have := HZ.out; have := H.out.below.size; omega) (.slice A5 (many txtR t).1.length c5)) hk6 (zbi HR5.out (p := ⟨w1.heap.size, 7, none⟩) (by have := HZ.out; show W.heap.size ≠ w1.heap.size; omega) (.slice A5 (many txtR t).1.length c5)) (by decide)); have HO6 := Aside0.mk (Kd.zdg (Kd.zfx HO5.out HC5.out (by decide) 7 (.slice A5 (many txtR t).1.length c5)) hk6 (fun k hk => by have := H.out.lt; have := HK.out.1; omega)); have HK6 := Aside0.mk ((zbg HK5.out (p := ⟨w1.heap.size, 7, none⟩) (by have := HZ.out; show W.heap.size ≤ w1.heap.size; omega) (.slice A5 (many txtR t).1.length c5)).trans hk6 (.inl rfl)); clear h6 hk6)
        | (go_at_call 38; (with_reducible refine (zby w0 w6 g (numR (many txtR t).2).2 HT6.out (zcw _ (zin _ zhh _ HB.out.1))).mono ?_); rintro e w7 ⟨rfl, h7, hk7⟩; have HT7 := Aside0.mk (show RSt w0 w7 g (numR (numR (many txtR t).2).2).2 from h7); have HC7 := Aside0.mk (HT6.out.other hk7 HC6.out (by decide)); have HR7 := Aside0.mk (HT6.out.other hk7 HR6.out (by decide)); have HO7 := Aside0.mk (Kd.zdg HO6.out hk7 (fun k hk => by have := H.out.lt; have := HK.out.1; omega)); have HK7 := Aside0.mk (HK6.out.trans hk7 (.inl rfl)); clear h7 hk7)
        | (go_at_call 38; (with_reducible refine (zby w0 w7 g (numR (numR (many txtR t).2).2).2 HT7.out (zcw _ (zcw _ (zin _ zhh _ HB.out.1)))).mono ?_); rintro e w8 ⟨rfl, h8, hk8⟩; have HT8 := Aside0.mk (show RSt w0 w8 g (numR (numR (numR (many txtR t).2).2).2).2 from h8); have hc8 := HT7.out.other hk8 HC7.out (by decide); have hr8 := HT7.out.other hk8 HR7.out (by decide); have HC8 := Aside0.mk hc8; have HR8 := Aside0.mk hr8; have HO8 := Aside0.mk (Kd.zdg HO7.out hk8 (fun k hk => by have := H.out.lt; have := HK.out.1; omega)); have HK8 := Aside0.mk (HK7.out.trans hk8 (.inl rfl)); have s0 := (zaa hc8 0).trans rfl; have s1 := (zaa hc8 1).trans rfl; have s2 := (zaa hc8 2).trans rfl; have s3 := (zaa hc8 3).trans rfl; have s4 := (zaa hc8 4).trans rfl; have s5 := (zaa hc8 5).trans rfl; have s6 := (zaa hc8 6).trans rfl; have s7 := (zaa hc8 7).trans rfl; have s8 := (zaa hc8 8).trans rfl; have s9 := (zaa hc8 9).trans rfl; have s10 := (zaa hc8 10).trans rfl; have g8 := zab hc8 8; have g9 := zab hc8 9; have g10 := zab hc8 10; clear h8 hk8 hc8 hr8)
        | ((with_reducible refine zbw (t := 25) (p := 2) rfl ?_); go_must (refine Ca.zbq (g := W.heap.size) (e := 25) (old := #[.int .i64 0, .string ⟨#[]⟩, .string ⟨#[]⟩, .string ⟨#[]⟩, .string ⟨#[]⟩, .string ⟨#[]⟩, .string ⟨#[]⟩, .slice none 0 0, .int .i64 0, .int .i64 0, .int .i64 0]) rfl rfl 25 (.tmp 2) (.tmp 40) rfl rfl rfl ?hb rfl info25 ?h1 ?_); go_must (case hb => exact zbi (zbi (zbi HR8.out (p := ⟨w1.heap.size, 8, none⟩) (by have := HZ.out; show W.heap.size ≠ w1.heap.size; omega) _) (p := ⟨w1.heap.size, 9, none⟩) (by have := HZ.out; show W.heap.size ≠ w1.heap.size; omega) _) (p := ⟨w1.heap.size, 10, none⟩) (by have := HZ.out; show W.heap.size ≠ w1.heap.size; omega) _); go_must (case h1 => intro q hq; simp at hq; rcases hq with rfl | rfl | rfl | rfl | rfl | rfl | rfl | rfl | rfl | rfl | rfl <;> rfl); intro w9 hb9 hg9; have HB9 := Aside0.mk hb9; have HG9 := Aside0.mk hg9; clear hb9 hg9))
      have z0 := (zaa HB9.out 0).trans rfl
      have z1 := (zaa HB9.out 1).trans rfl
      have z2 := (zaa HB9.out 2).trans rfl
      have z3 := (zaa HB9.out 3).trans rfl
      have z4 := (zaa HB9.out 4).trans rfl
      have z5 := (zaa HB9.out 5).trans rfl
      have z6 := (zaa HB9.out 6).trans rfl
      have z7 := (zaa HB9.out 7).trans rfl
      have z8 := (zaa HB9.out 8).trans rfl
      have z9 := (zaa HB9.out 9).trans rfl
      have z10 := (zaa HB9.out 10).trans rfl
      refine bodyPost_ret (v := (.agg #[.int .i64 (wrap64 (raw s).1), .string (l.getD 0 ⟨#[]⟩), .string (l.getD 1 ⟨#[]⟩), .string (l.getD 2 ⟨#[]⟩), .string (l.getD 3 ⟨#[]⟩), .string (l.getD 4 ⟨#[]⟩), .string (l.getD 5 ⟨#[]⟩), .slice A5 (many txtR t).1.length c5, .int .i64 (numR (many txtR t).2).1, .int .i64 (numR (numR (many txtR t).2).2).1, .int .i64 (numR (numR (numR (many txtR t).2).2).2).1])) (by simp [results, Try.results33, go_sem, z0, z1, z2, z3, z4, z5, z6, z7, z8, z9, z10, numR]) rfl ?_
      obtain ⟨rfl, rfl⟩ := HE.out
      have hge := H.out.below.size
      have hz := HZ.out
      have hR8 := zbi (zbi (zbi HR8.out (p := ⟨w1.heap.size, 8, none⟩) (by show W.heap.size ≠ w1.heap.size; omega) (.int .i64 (numR (many txtR (rep 6 (numR s).2).2).2).1)) (p := ⟨w1.heap.size, 9, none⟩) (by show W.heap.size ≠ w1.heap.size; omega) (.int .i64 (numR (numR (many txtR (rep 6 (numR s).2).2).2).2).1)) (p := ⟨w1.heap.size, 10, none⟩) (by show W.heap.size ≠ w1.heap.size; omega) (.int .i64 (numR (numR (numR (many txtR (rep 6 (numR s).2).2).2).2).2).1)
      have hT8 := ((HT8.out.far (b := w1.heap.size) (j := 8) (by omega) (by omega) (.int .i64 (numR (many txtR (rep 6 (numR s).2).2).2).1)).far (b := w1.heap.size) (j := 9) (by omega) (by omega) (.int .i64 (numR (numR (many txtR (rep 6 (numR s).2).2).2).2).1)).far (b := w1.heap.size) (j := 10) (by omega) (by omega) (.int .i64 (numR (numR (numR (many txtR (rep 6 (numR s).2).2).2).2).2).1)
      refine ⟨A5, c5, rfl, ?_, ?_, ?_⟩
      · have h1 := Kd.zfx (Kd.zfx (Kd.zfx HO8.out HC8.out (by decide) 8 (.int .i64 (numR (many txtR (rep 6 (numR s).2).2).2).1)) (zdb HC8.out 8 _) (by decide) 9 (.int .i64 (numR (numR (many txtR (rep 6 (numR s).2).2).2).2).1)) (zdb (zdb HC8.out 8 _) 9 _) (by decide) 10 (.int .i64 (numR (numR (numR (many txtR (rep 6 (numR s).2).2).2).2).2).1)
        exact Kd.zbh (Kd.zeo (Kd.zco h1 hR8 (by decide)) HG9.out (fun k hk he => hk.2 (by injection he))) (fun k hk => Nat.le_trans HK.out.1 hk.1)
      · exact hT8.grown HG9.out (by intro he; injection he with he; omega) (hT8.below.grown HG9.out hT8.below.size (fun k hk => by injection hk with hk; omega))
      · exact (zbg (zbg (zbg HK8.out (p := ⟨w1.heap.size, 8, none⟩) (by show W.heap.size ≤ w1.heap.size; omega) _) (p := ⟨w1.heap.size, 9, none⟩) (by show W.heap.size ≤ w1.heap.size; omega) _) (p := ⟨w1.heap.size, 10, none⟩) (by show W.heap.size ≤ w1.heap.size; omega) _).trans (KeepBut.zec HG9.out g) (.inr ⟨_, rfl, Nat.le_refl _⟩)
end Go.Proofs.Ytjhcbggpbfejgaa.Cr
