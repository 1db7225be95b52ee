/- The walk of msg's Get. -/
import Derived.Test.YtjhcbggpbfejgaaMs
import Derived.Test.YtjhcbggpbfejgaaMp
import Derived.Deep.RegionWith
import Derived.Deep.RegionLaw
namespace Go.Proofs.Ytjhcbggpbfejgaa.Mg
open Go.RowKit Go.Proofs.zjt.zjq Go.Proofs.zjt.zjr Go.Proofs.zjt.zjs
open Go.Proofs.Ytjhcbggpbfejgaa.Cp
open Go.Proofs.Ytjhcbggpbfejgaa.Mk
open Go.Proofs.Ytjhcbggpbfejgaa.Mq
open Go.Proofs.Ytjhcbggpbfejgaa.Mr
open Go.Proofs.Ytjhcbggpbfejgaa.Ms
open Go.Proofs.Ytjhcbggpbfejgaa.Mp (rpcV info38 zdz)
open Go.Proofs.Ytjhcbggpbfejgaa.Cw (info5 zcp logV)
open Go.Proofs.Ytjhcbggpbfejgaa.Cr (zgp GetLogOut)
set_option linter.unusedVariables false
set_option linter.unusedSimpArgs false
/-- The cells of an entry that is none. -/
abbrev zLog : Array Value := #[.int .i64 0, .int .i64 0, .int .i64 0, .string ⟨#[]⟩, .string ⟨#[]⟩, .string ⟨#[]⟩, .string ⟨#[]⟩, .string ⟨#[]⟩, .string ⟨#[]⟩, .slice none 0 0, .int .i64 0, .int .i64 0, .int .i64 0, .slice none 0 0]
theorem info38b : (Try.prog.info? 38).map (fun i => (i.zero, i.size, i.bytes)) = some (some (.agg zLog), k38.sz, 192) := by kernel_rfl
/-- An entry's cells. -/
abbrev logC (l : Log) (A : Option Addr) (cap : Nat) (A2 : Option Addr) (cap2 : Nat) : Array Value := #[.int .i64 l.term, .int .i64 l.kind, .int .i64 l.cmd.op, .string l.cmd.book, .string l.cmd.name, .string l.cmd.data, .string l.cmd.mat, .string l.cmd.non, .string l.cmd.token, .slice A l.cmd.names.length cap, .int .i64 l.cmd.at_, .int .i64 l.cmd.session, .int .i64 l.cmd.seq, .slice A2 l.nodes.length cap2]
theorem info66 : (Try.prog.info? 66).map (·.size) = some 14 := by kernel_rfl
/-- A message's cells, while it is read. -/
abbrev cells (a : List Int) (ok : Bool) (c r : Int) (v : Value) (sa st : Int) (v2 : Value) (d : ByteArray) (k : Int) : Array Value := #[.int .i64 k, .int .i64 (rd a 0), .int .i64 (rd a 1), .int .i64 (rd a 2), .int .i64 (rd a 3), .int .i64 (rd a 4), .bool ok, .int .i64 c, .int .i64 r, v, .int .i64 sa, .int .i64 st, v2, .string d]
abbrev cellO (a : List Int) (ok : Bool) (c r : Int) (v : Value) (sa st : Int) (v2 : Value) (d : ByteArray) (k : Int) : Obj := .cells (cells a ok c r v sa st v2 d k) 66 (0, 0)
abbrev zeroC : Array Value := #[.int .i64 0, .int .i64 0, .int .i64 0, .int .i64 0, .int .i64 0, .int .i64 0, .bool false, .int .i64 0, .int .i64 0, .slice none 0 0, .int .i64 0, .int .i64 0, .slice none 0 0, .string ⟨#[]⟩]
/-- What Get answers. -/
def GetOut (w : World) (r : Rpc × Int) (e : Ending) (w' : World) : Prop :=
  ∃ A cap A2 cap2, e = .returned (.tuple #[rpcV r.1 A cap A2 cap2, .int .i64 r.2]) ∧ Kd.R k38 38 w' w.heap.size (fun _ => True) (.slice A r.1.logs.length cap) r.1.logs ∧ Kd.R (Kd.int .i64) 3 w' w.heap.size (fun _ => True) (.slice A2 r.1.nodes.length cap2) r.1.nodes ∧ Below w.heap.size w w'
theorem RSt.begin {w W : World} {A : Option Addr} {c : Nat} {xs : List Int} (hB : Below w.heap.size w W) (hc : Kd.C (Kd.int .u8) w A xs.length xs) (hl : xs.length ≤ c) {g : Nat} (hg : W.heap.size = g) : RSt w (W.alloc (.cells #[.slice A xs.length c, .bool false, .bool false] 108)) g (xs, 0) false := by
  subst hg
  exact ⟨A, c, zbt W _, hB.size, hc, hl, zad hB _⟩
theorem RSt.grown {w0 W W1 : World} {g : Nat} {s : St} {bad : Bool} {row : Option Nat} (h : RSt w0 W g s bad) (hg : W.grownBy W1 row) (hne : some g ≠ row) (hB : Below w0.heap.size w0 W1) : RSt w0 W1 g s bad := by
  obtain ⟨A, c, hb, hge, hc, hl, _⟩ := h
  exact ⟨A, c, zbm hb hg hne, hge, hc, hl, hB⟩
theorem RSt.neR {α : Type} {d : Kd α} {e : Nat} {w0 W : World} {g base : Nat} {ok : Nat → Prop} {v : Value} {xs : List α} {s : St} {bad : Bool} (h : RSt w0 W g s bad) (ho : Kd.R d e W base ok v xs) (ht : e ≠ 108) : some g ≠ v.ownBlock := by
  obtain ⟨A, c, hb, _⟩ := h
  exact Kd.R_ne ho hb ht
theorem RSt.keepC {w0 W W1 : World} {g C b t : Nat} {s : St} {bad : Bool} {cs : Array Value} (h : RSt w0 W g s bad) (hk : KeepBut W W1 g (some C)) (hb : W.heap[b]? = some (.cells cs t (0, 0))) (ht : t ≠ 108) (hC : b ≠ C) : W1.heap[b]? = some (.cells cs t (0, 0)) :=
  hk.blk hb (h.ne hb ht) (by simpa using hC)
theorem zar {W W1 : World} {o : Obj} {g : Nat} {row : Option Nat} (h : KeepBut (W.alloc o) W1 g row) : KeepBut W W1 g row :=
  ⟨by have := h.1; simp at this; omega, fun i hi h1 h2 => (h.2 i (by simp; omega) h1 h2).trans ((zad (Below.refl W.heap.size W) o).block i hi)⟩
theorem numbers5 (w0 W : World) (g : Nat) (s : St) (bad : Bool) (C : Nat) (h : RSt w0 W g s bad) (hs : Bs s.1) (hx : W.heap[C]? = some (.cells zeroC 66 (0, 0))) (hC : w0.heap.size ≤ C) :
    Calls Try.prog 57 #[.pointer (some ⟨g, 0, none⟩), .slice (some ⟨W.heap.size, 0, none⟩) 5 5] (W.alloc (.cells #[.pointer (some ⟨C, 1, none⟩), .pointer (some ⟨C, 2, none⟩), .pointer (some ⟨C, 3, none⟩), .pointer (some ⟨C, 4, none⟩), .pointer (some ⟨C, 5, none⟩)] 75)) fun e w' => e = .returned (.tuple #[]) ∧ RSt w0 w' g (numsR 5 s).2 bad ∧
      w'.heap[C]? = some (.cells (cells (numsR 5 s).1 false 0 0 (.slice none 0 0) 0 0 (.slice none 0 0) ⟨#[]⟩ 0) 66 (0, 0)) ∧ KeepBut W w' g (some C) :=
  (zfr w0 (W.alloc (.cells #[.pointer (some ⟨C, 1, none⟩), .pointer (some ⟨C, 2, none⟩), .pointer (some ⟨C, 3, none⟩), .pointer (some ⟨C, 4, none⟩), .pointer (some ⟨C, 5, none⟩)] 75)) g s bad W.heap.size C 66 5 5 [1, 2, 3, 4, 5] zeroC _ (h.alloc _) hs rfl rfl (zbt W _) (zaf hx _) (by decide) (by decide) hC (by decide)).mono
    fun e w' ⟨h1, h2, h3, h4⟩ => ⟨h1, h2, h3, zar h4⟩
theorem numbers78 (w0 W : World) (g : Nat) (s : St) (bad : Bool) (C : Nat) (a : List Int) (h : RSt w0 W g s bad) (hs : Bs s.1) (hx : W.heap[C]? = some (.cells (cells a false 0 0 (.slice none 0 0) 0 0 (.slice none 0 0) ⟨#[]⟩ 0) 66 (0, 0))) (hC : w0.heap.size ≤ C) :
    Calls Try.prog 57 #[.pointer (some ⟨g, 0, none⟩), .slice (some ⟨W.heap.size, 0, none⟩) 2 2] (W.alloc (.cells #[.pointer (some ⟨C, 7, none⟩), .pointer (some ⟨C, 8, none⟩)] 75)) fun e w' => e = .returned (.tuple #[]) ∧ RSt w0 w' g (numsR 2 s).2 bad ∧
      w'.heap[C]? = some (.cells (cells a false (rd (numsR 2 s).1 0) (rd (numsR 2 s).1 1) (.slice none 0 0) 0 0 (.slice none 0 0) ⟨#[]⟩ 0) 66 (0, 0)) ∧ KeepBut W w' g (some C) :=
  (zfr w0 (W.alloc (.cells #[.pointer (some ⟨C, 7, none⟩), .pointer (some ⟨C, 8, none⟩)] 75)) g s bad W.heap.size C 66 2 2 [7, 8] (cells a false 0 0 (.slice none 0 0) 0 0 (.slice none 0 0) ⟨#[]⟩ 0) _ (h.alloc _) hs rfl rfl (zbt W _) (zaf hx _) (by decide) (by simp) hC (by decide)).mono
    fun e w' ⟨h1, h2, h3, h4⟩ => ⟨h1, h2, h3, zar h4⟩
theorem numbersAB (w0 W : World) (g : Nat) (s : St) (bad : Bool) (C : Nat) (a : List Int) (c r : Int) (v : Value) (h : RSt w0 W g s bad) (hs : Bs s.1) (hx : W.heap[C]? = some (.cells (cells a false c r v 0 0 (.slice none 0 0) ⟨#[]⟩ 0) 66 (0, 0))) (hC : w0.heap.size ≤ C) :
    Calls Try.prog 57 #[.pointer (some ⟨g, 0, none⟩), .slice (some ⟨W.heap.size, 0, none⟩) 2 2] (W.alloc (.cells #[.pointer (some ⟨C, 10, none⟩), .pointer (some ⟨C, 11, none⟩)] 75)) fun e w' => e = .returned (.tuple #[]) ∧ RSt w0 w' g (numsR 2 s).2 bad ∧
      w'.heap[C]? = some (.cells (cells a false c r v (rd (numsR 2 s).1 0) (rd (numsR 2 s).1 1) (.slice none 0 0) ⟨#[]⟩ 0) 66 (0, 0)) ∧ KeepBut W w' g (some C) :=
  (zfr w0 (W.alloc (.cells #[.pointer (some ⟨C, 10, none⟩), .pointer (some ⟨C, 11, none⟩)] 75)) g s bad W.heap.size C 66 2 2 [10, 11] (cells a false c r v 0 0 (.slice none 0 0) ⟨#[]⟩ 0) _ (h.alloc _) hs rfl rfl (zbt W _) (zaf hx _) (by decide) (by simp) hC (by decide)).mono
    fun e w' ⟨h1, h2, h3, h4⟩ => ⟨h1, h2, h3, zar h4⟩
theorem number1 (w0 W : World) (g : Nat) (s : St) (bad : Bool) (C b : Nat) (h : RSt w0 W g s bad) (hs : Bs s.1) (hx : W.heap[C]? = some (.cells #[.int .i64 0] 3 (0, 0))) (hC : w0.heap.size ≤ C) (hb : W.heap.size = b) :
    Calls Try.prog 57 #[.pointer (some ⟨g, 0, none⟩), .slice (some ⟨b, 0, none⟩) 1 1] (W.alloc (.cells #[.pointer (some ⟨C, 0, none⟩)] 75)) fun e w' => e = .returned (.tuple #[]) ∧ RSt w0 w' g (numR s).2 bad ∧
      w'.heap[C]? = some (.cells #[.int .i64 (numR s).1] 3 (0, 0)) ∧ KeepBut W w' g (some C) := by
  subst hb
  exact (zfr w0 (W.alloc (.cells #[.pointer (some ⟨C, 0, none⟩)] 75)) g s bad W.heap.size C 3 1 1 [0] #[.int .i64 0] _ (h.alloc _) hs rfl rfl (zbt W _) (zaf hx _) (by decide) (by simp) hC (by decide)).mono
    fun e w' ⟨h1, h2, h3, h4⟩ => ⟨h1, h2, h3, zar h4⟩
theorem info3 : (Try.prog.info? 3).map (fun i => (i.zero, i.size, i.bytes)) = some (some (.int .i64 0), (Kd.int .i64).sz, 8) := by kernel_rfl
theorem GetOut.bad {w w' : World} {xs : List Int} {e : Int} (h : getRpc xs = (zeroRpc, e)) (hb : Below w.heap.size w w') : GetOut w (getRpc xs) (.returned (.tuple #[rpcV zeroRpc none 0 none 0, .int .i64 e])) w' := by
  rw [h]
  exact ⟨none, 0, none, 0, rfl, Kd.zdf _ _ _ _ _, Kd.zdf _ _ _ _ _, hb⟩
set_option maxHeartbeats 4000000 in
set_option maxRecDepth 100000 in
theorem zjd (xs : List Int) (A : Option Addr) (c : Nat) (w : World) (hc : Kd.C (Kd.int .u8) w A xs.length xs) (hl : xs.length ≤ c) (hs : Bs xs) (hb : xs.length ≤ 68719476736) :
    Calls Try.prog 30 #[.slice A xs.length c] w (GetOut w (getRpc xs)) := by
  have HC := Aside0.mk hc
  have HL := Aside0.mk hl
  have HS := Aside0.mk hs
  have HB := Aside0.mk hb
  have B1 := Aside0.mk (show Bs (g1 xs).2.1 from (zdl (xs, 0) 1 hs).2)
  have B2 := Aside0.mk (show Bs (g2 xs).2.1 from zdr 5 _ B1.out)
  have B3 := Aside0.mk (show Bs (g3 xs).2.1 from (zdl (g2 xs).2 1 B2.out).2)
  have B4 := Aside0.mk (show Bs (g4 xs).2.1 from zdr 2 _ B3.out)
  have L4 : Aside0 ((g4 xs).2.1.length ≤ xs.length) := ⟨by
    have h1 := zel (xs, 0) 1
    have h2 := zdu 5 (g1 xs).2
    have h3 := zel (g2 xs).2 1
    have h4 := zdu 2 (g3 xs).2
    simp only [g4, g3, g2, g1] at *
    omega⟩
  have hm := hc.2.1
  have H0 := Aside0.mk ((RSt.begin (zad (Below.refl w.heap.size w) (.cells zeroC 66)) hc hl rfl).alloc (.cells zeroC 66))
  have HR0 := Aside0.mk (zaf (zaf (zbt w (.cells zeroC 66)) (.cells #[.slice A xs.length c, .bool false, .bool false] 108)) (.cells zeroC 66))
  have HC0 := Aside0.mk (zbt ((w.alloc (.cells zeroC 66)).alloc (.cells #[.slice A xs.length c, .bool false, .bool false] 108)) (.cells zeroC 66))
  simp only [World.size_alloc] at H0 HC0
  clear hc hl hs hb
  go_enter Try.func30, Try.ntmps30
  go_upto_block 0 with (first
    | (go_at_call 56; (with_reducible refine (zeb w _ _ (xs, 0) false 1 H0.out (by decide)).mono ?_); rintro e w1 ⟨⟨A1, k1, rfl, hc1, hl1⟩, h1, hk1⟩; have HC1 := Aside0.mk (show Kd.C (Kd.int .u8) w A1 (g1 xs).1.length (g1 xs).1 from hc1); have H1 := Aside0.mk (show RSt w w1 (w.heap.size + 1) (g1 xs).2 false from h1); have HR1 := Aside0.mk (H0.out.other hk1 HR0.out (by decide)); have HX1 := Aside0.mk (H0.out.other hk1 HC0.out (by decide)); clear hc1 hl1 h1 hk1)
    | (go_at_call 57; (with_reducible refine (numbers5 w w1 (w.heap.size + 1) (g1 xs).2 false (w.heap.size + 1 + 1) H1.out B1.out HX1.out ?q1).mono ?_); (case q1 => omega); rintro e w2 ⟨rfl, h2, hx2, hk2⟩; have H2 := Aside0.mk (show RSt w w2 (w.heap.size + 1) (g2 xs).2 false from h2); have HX2 := Aside0.mk (show w2.heap[w.heap.size + 1 + 1]? = some (cellO (g2 xs).1 false 0 0 (.slice none 0 0) 0 0 (.slice none 0 0) ⟨#[]⟩ 0) from hx2); have HR2 := Aside0.mk (RSt.keepC H1.out hk2 HR1.out (by decide) (by omega)); clear h2 hx2 hk2)
    | (go_at_call 56; (with_reducible refine (zeb w _ _ (g2 xs).2 false 1 H2.out (by decide)).mono ?_); rintro e w3 ⟨⟨A3, k3, rfl, hc3, hl3⟩, h3, hk3⟩; have HC3 := Aside0.mk (show Kd.C (Kd.int .u8) w A3 (g3 xs).1.length (g3 xs).1 from hc3); have H3 := Aside0.mk (show RSt w w3 (w.heap.size + 1) (g3 xs).2 false from h3); have HR3 := Aside0.mk (H2.out.other hk3 HR2.out (by decide)); have HX3 := Aside0.mk (H2.out.other hk3 HX2.out (by decide)); clear hc3 hl3 h3 hk3)
    | (go_at_call 57; (with_reducible refine (numbers78 w w3 (w.heap.size + 1) (g3 xs).2 false (w.heap.size + 1 + 1) (g2 xs).1 H3.out B3.out HX3.out ?q1).mono ?_); (case q1 => omega); rintro e w4 ⟨rfl, h4, hx4, hk4⟩; have H4 := Aside0.mk (show RSt w w4 (w.heap.size + 1) (g4 xs).2 false from h4); have HX4 := Aside0.mk (show w4.heap[w.heap.size + 1 + 1]? = some (cellO (g2 xs).1 false (rd (g4 xs).1 0) (rd (g4 xs).1 1) (.slice none 0 0) 0 0 (.slice none 0 0) ⟨#[]⟩ 0) from hx4); have HR4 := Aside0.mk (RSt.keepC H3.out hk4 HR3.out (by decide) (by omega)); clear h4 hx4 hk4)
    | (go_at_call 58; (with_reducible refine (zge w _ (w.heap.size + 1) (g4 xs).2 false H4.out B4.out ?q2).mono ?_); (case q2 => have := HB.out; have := L4.out; omega); rintro e w5 ⟨rfl, h5, hk5⟩; have H5 := Aside0.mk (show RSt w w5 (w.heap.size + 1) (g5 xs).2 false from h5); have HX5 := Aside0.mk (H4.out.other hk5 HX4.out (by decide)); have HR5 := Aside0.mk (H4.out.other hk5 HR4.out (by decide)); clear h5 hk5))
  have HN : Aside0 (0 ≤ (g5 xs).1 ∧ (g5 xs).1 ≤ 68719476736) := ⟨by
    have h := zgy (g4 xs).2 B4.out
    have h2 := L4.out
    have h3 := HB.out
    simp only [g5]
    omega⟩
  have BL5 : Aside0 (Bs (g5 xs).2.1 ∧ (g5 xs).2.1.length ≤ xs.length) := ⟨zhm _ B4.out, Nat.le_trans (zhl _) L4.out⟩
  obtain ⟨n, hn⟩ : ∃ n, (cntR (g4 xs).2).1 = n := ⟨_, rfl⟩
  have HNN := Aside0.mk (show (g5 xs).1 = n from hn)
  rw [HNN.out] at HN
  rw [hn]
  clear hn
  obtain ⟨ca, hca⟩ : ∃ ca, rd (g4 xs).1 0 = ca := ⟨_, rfl⟩
  obtain ⟨cb, hcb⟩ : ∃ cb, rd (g4 xs).1 1 = cb := ⟨_, rfl⟩
  rw [hca, hcb] at HX5
  have HCA := Aside0.mk hca
  have HCB := Aside0.mk hcb
  clear hca hcb
  go_cut [] (fun wc => ∃ (v : Value), Aside0 (RSt w wc (w.heap.size + 1) (g6 xs).2.2 (g6 xs).2.1) ∧ Aside0 (Kd.R k38 38 wc w.heap.size (fun k => w5.heap.size ≤ k) v (g6 xs).1) ∧ Aside0 (wc.heap[w.heap.size + 1 + 1]? = some (cellO (g2 xs).1 false ca cb v 0 0 (.slice none 0 0) ⟨#[]⟩ 0)) ∧ Aside0 (wc.heap[w.heap.size]? = some (.cells zeroC 66 (0, 0))))
  case first =>
    go_wp2_with fail
    go_loopw [33] (fun i wr => ∃ (x : Int) (t : St) (out : List S38) (bd : Bool) (v : Value), i = .int .i64 x ∧ Aside0 (0 ≤ x ∧ x ≤ n) ∧ Aside0 (out ++ (logsGo (n - x).toNat t).1 = (g6 xs).1 ∧ (bd || (logsGo (n - x).toNat t).2.1) = (g6 xs).2.1 ∧ (logsGo (n - x).toNat t).2.2 = (g6 xs).2.2) ∧ Aside0 (Kd.R k38 38 wr w.heap.size (fun k => w5.heap.size ≤ k) v out) ∧ Aside0 (RSt w wr (w.heap.size + 1) t bd) ∧ Aside0 (wr.heap[w.heap.size + 1 + 1]? = some (cellO (g2 xs).1 false ca cb v 0 0 (.slice none 0 0) ⟨#[]⟩ 0)) ∧ Aside0 (wr.heap[w.heap.size]? = some (.cells zeroC 66 (0, 0))) ∧ Aside0 (Bs t.1 ∧ t.1.length ≤ xs.length) ∧ Aside0 ((out.length : Int) = x) ∧ Aside0 (w5.heap.size ≤ wr.heap.size)) (fun i _ => (n - intOf i).toNat)
    case atStart => exact ⟨0, (g5 xs).2, [], false, .slice none 0 0, rfl, ⟨by have := HN.out; omega⟩, ⟨by simp [g6, HNN.out]⟩, ⟨Kd.zdf _ _ _ _ _⟩, H5, HX5, HR5, BL5, ⟨rfl⟩, ⟨Nat.le_refl _⟩⟩
    case round =>
      obtain ⟨x, t, out, bd, v, rfl, HX, HM, HO, HT, HCC, HRR, HBL, HLo, HSz⟩ := hrel
      obtain ⟨hx0, hx1⟩ := HX.out
      by_cases c : x < n
      · have e1 : decide (x < n) = true := decide_eq_true c
        have HRW := Aside0.mk (zfb t HBL.out.1).1
        have HTB := Aside0.mk (zgj t HBL.out.1)
        have HTL := Aside0.mk (show (take (raw t).2 (raw t).1).1.length ≤ 1099511627776 from by have := zha t; simp only [textR] at this; have := HBL.out.2; have := HB.out; omega)
        obtain ⟨lg, hlg⟩ : ∃ lg, getLog (take (raw t).2 (raw t).1).1 = lg := ⟨_, rfl⟩
        have HLG := Aside0.mk hlg
        clear hlg
        have hg5 := H5.out.lt
        have HG5 := Aside0.mk hg5
        have e2 : (n - x).toNat = (n - (x + 1)).toNat + 1 := by omega
        have hm := HM.out
        rw [e2, logsGo] at hm
        have HM2 := Aside0.mk hm
        clear e2 hm hg5
        by_cases ct : (textR t).2.2 = 150
        · have hsh : decide ((take (raw t).2 (raw t).1).2.2 = 150) = true := decide_eq_true ct
          have HCT := Aside0.mk ct
          clear ct
          go_wp2_with (first
            | (go_at_call 59; (with_reducible refine (zee w wr _ t bd HT.out HBL.out.1).mono ?_); rintro e w6 ⟨rfl, h6, hk6⟩; have H6 := Aside0.mk h6; have HCC6 := Aside0.mk (HT.out.other hk6 HCC.out (by decide)); have HRR6 := Aside0.mk (HT.out.other hk6 HRR.out (by decide)); have HO6 := Aside0.mk (Kd.zdg HO.out hk6 (fun k hk => by have := HG5.out; omega)); have HK6 := Aside0.mk hk6.1; clear h6 hk6)
            | (go_at_call 56; (with_reducible refine (zeb w w6 _ (raw t).2 bd (raw t).1 H6.out HRW.out).mono ?_); rintro e w7 ⟨⟨A7, k7, rfl, hc7, hl7⟩, h7, hk7⟩; have HC7 := Aside0.mk hc7; have HL7 := Aside0.mk hl7; have H7 := Aside0.mk h7; have HCC7 := Aside0.mk (H6.out.other hk7 HCC6.out (by decide)); have HRR7 := Aside0.mk (H6.out.other hk7 HRR6.out (by decide)); have HO7 := Aside0.mk (Kd.zdg HO6.out hk7 (fun k hk => by have := HG5.out; omega)); have HK7 := Aside0.mk hk7.1; clear hc7 hl7 h7 hk7)
            | (go_at_call 15; go_must (refine (show Calls Try.prog 15 #[.slice A7 (take (raw t).2 (raw t).1).1.length k7] w7 (GetLogOut w7 lg) from HLG.out ▸ zgp (take (raw t).2 (raw t).1).1 A7 k7 w7 (Kd.zci HC7.out H7.out.below) HL7.out HTB.out.1 HTL.out).mono ?_); rintro e w8 ⟨A8, k8, A9, k9, rfl, ho8, ho9, hb8⟩; have HO8 := Aside0.mk ho8; have HOI8 := Aside0.mk ho9; have HB8 := Aside0.mk hb8; have HK8 := Aside0.mk hb8.size; clear ho8 ho9 hb8)
            | ((with_reducible refine zbw (t := 38) (p := 8) rfl ?_); go_must (refine Ca.zbq (g := w8.heap.size) (e := 38) (old := zLog) (cs := logC lg.1 A8 k8 A9 k9) rfl rfl 38 (.tmp 8) (.tmp 41) rfl rfl rfl ?hb rfl info38 ?h1 ?_); go_must (case hb => exact zbt w8 _); go_must (case h1 => intro q hq; simp at hq; rcases hq with rfl | rfl | rfl | rfl | rfl | rfl | rfl | rfl | rfl | rfl | rfl | rfl | rfl | rfl <;> rfl); intro w9 hb9 hg9; have HB9 := Aside0.mk hb9; have HBW := Aside0.mk (zdz hg9); have H9 := Aside0.mk ((H7.out.below' HB8.out).below' HBW.out); have HCC9 := Aside0.mk (zbn (zbn HCC7.out HB8.out) HBW.out); have HRR9 := Aside0.mk (zbn (zbn HRR7.out HB8.out) HBW.out); have HO9 := Aside0.mk (Kd.zcq (Kd.zcq HO7.out HB8.out) HBW.out); have HK9 := Aside0.mk HBW.out.size; obtain ⟨Az, kz, c0, c1, c2, f1, f2, hmz⟩ := H9.out.parts; simp only [sh] at c1; rw [hsh] at c1; clear hb9 hg9))
          go_meet
          have hm := HM2.out
          rw [if_pos HCT.out] at hm
          refine ⟨v, ⟨?_⟩, ⟨?_⟩, HCC9, HRR9⟩
          · rw [← hm.2.2, ← hm.2.1, Bool.or_false]
            exact H9.out
          · rw [← hm.1, List.append_nil]
            exact HO9.out
        · have hsh : decide ((take (raw t).2 (raw t).1).2.2 = 150) = false := decide_eq_false ct
          have HCT := Aside0.mk ct
          clear ct
          go_upto_region 11 with (first
            | (go_at_call 59; (with_reducible refine (zee w wr _ t bd HT.out HBL.out.1).mono ?_); rintro e w6 ⟨rfl, h6, hk6⟩; have H6 := Aside0.mk h6; have HCC6 := Aside0.mk (HT.out.other hk6 HCC.out (by decide)); have HRR6 := Aside0.mk (HT.out.other hk6 HRR.out (by decide)); have HO6 := Aside0.mk (Kd.zdg HO.out hk6 (fun k hk => by have := HG5.out; omega)); have HK6 := Aside0.mk hk6.1; clear h6 hk6)
            | (go_at_call 56; (with_reducible refine (zeb w w6 _ (raw t).2 bd (raw t).1 H6.out HRW.out).mono ?_); rintro e w7 ⟨⟨A7, k7, rfl, hc7, hl7⟩, h7, hk7⟩; have HC7 := Aside0.mk hc7; have HL7 := Aside0.mk hl7; have H7 := Aside0.mk h7; have HCC7 := Aside0.mk (H6.out.other hk7 HCC6.out (by decide)); have HRR7 := Aside0.mk (H6.out.other hk7 HRR6.out (by decide)); have HO7 := Aside0.mk (Kd.zdg HO6.out hk7 (fun k hk => by have := HG5.out; omega)); have HK7 := Aside0.mk hk7.1; clear hc7 hl7 h7 hk7)
            | (go_at_call 15; go_must (refine (show Calls Try.prog 15 #[.slice A7 (take (raw t).2 (raw t).1).1.length k7] w7 (GetLogOut w7 lg) from HLG.out ▸ zgp (take (raw t).2 (raw t).1).1 A7 k7 w7 (Kd.zci HC7.out H7.out.below) HL7.out HTB.out.1 HTL.out).mono ?_); rintro e w8 ⟨A8, k8, A9, k9, rfl, ho8, ho9, hb8⟩; have HO8 := Aside0.mk ho8; have HOI8 := Aside0.mk ho9; have HB8 := Aside0.mk hb8; have HK8 := Aside0.mk hb8.size; clear ho8 ho9 hb8)
            | ((with_reducible refine zbw (t := 38) (p := 8) rfl ?_); go_must (refine Ca.zbq (g := w8.heap.size) (e := 38) (old := zLog) (cs := logC lg.1 A8 k8 A9 k9) rfl rfl 38 (.tmp 8) (.tmp 41) rfl rfl rfl ?hb rfl info38 ?h1 ?_); go_must (case hb => exact zbt w8 _); go_must (case h1 => intro q hq; simp at hq; rcases hq with rfl | rfl | rfl | rfl | rfl | rfl | rfl | rfl | rfl | rfl | rfl | rfl | rfl | rfl <;> rfl); intro w9 hb9 hg9; have HB9 := Aside0.mk hb9; have HBW := Aside0.mk (zdz hg9); have H9 := Aside0.mk ((H7.out.below' HB8.out).below' HBW.out); have HCC9 := Aside0.mk (zbn (zbn HCC7.out HB8.out) HBW.out); have HRR9 := Aside0.mk (zbn (zbn HRR7.out HB8.out) HBW.out); have HO9 := Aside0.mk (Kd.zcq (Kd.zcq HO7.out HB8.out) HBW.out); have HK9 := Aside0.mk HBW.out.size; obtain ⟨Az, kz, c0, c1, c2, f1, f2, hmz⟩ := H9.out.parts; simp only [sh] at c1; rw [hsh] at c1; clear hb9 hg9))
          obtain ⟨bd2, hbd2⟩ : ∃ b, (bd || decide (lg.2 ≠ 0)) = b := ⟨_, rfl⟩
          have HBD := Aside0.mk hbd2
          clear hbd2
          go_cut [] (fun wc => Aside0 (w9.setCell ⟨w.heap.size + 1, 2, none⟩ (.bool bd2) = wc))
          case first =>
            cases bd
            · by_cases cl : lg.2 = 0
              · have d1 : (lg.2 != 0) = false := by simp [cl]
                have HBE := Aside0.mk (show bd2 = false by rw [← HBD.out]; simp [cl])
                clear cl
                go_wp2
                go_meet
                exact ⟨by rw [HBE.out]⟩
              · have d1 : (lg.2 != 0) = true := by simp [cl]
                have HBE := Aside0.mk (show bd2 = true by rw [← HBD.out]; simp [cl])
                clear cl
                go_wp2
                go_meet
                exact ⟨by rw [HBE.out]⟩
            · have HBE := Aside0.mk (show bd2 = true by rw [← HBD.out]; simp)
              go_wp2
              go_meet
              exact ⟨by rw [HBE.out]⟩
          case rest =>
            obtain rfl := hcut.out
            have H10 := Aside0.mk (H9.out.setBad bd2)
            have HCC10 := Aside0.mk (zbi HCC9.out (p := ⟨w.heap.size + 1, 2, none⟩) (by show w.heap.size + 1 + 1 ≠ w.heap.size + 1; omega) (.bool bd2))
            have HRR10 := Aside0.mk (zbi HRR9.out (p := ⟨w.heap.size + 1, 2, none⟩) (by show w.heap.size ≠ w.heap.size + 1; omega) (.bool bd2))
            have HL10 := Aside0.mk (zbi HB9.out (p := ⟨w.heap.size + 1, 2, none⟩) (by have := H7.out.lt; have := HK8.out; show w8.heap.size ≠ w.heap.size + 1; omega) (.bool bd2))
            obtain ⟨Ag, cg, hbg, _⟩ := H9.out
            have HO10 := Aside0.mk (Kd.zfx HO9.out hbg (by decide) 2 (.bool bd2))
            have HON := Aside0.mk (Kd.zfx (Kd.zcq (Kd.zdn (Kd.zbh (Kd.zek HO8.out) (ok' := fun k => w7.heap.size ≤ k) (fun k hk => hk.2.1)) (Nat.le_trans H7.out.below.size (Nat.le_refl _))) HBW.out) hbg (by decide) 2 (.bool bd2))
            have HOM := Aside0.mk (Kd.zfx (Kd.zcq (Kd.zdn (Kd.zbh (Kd.zek HOI8.out) (ok' := fun k => w7.heap.size ≤ k) (fun k hk => hk.2.1)) (Nat.le_trans H7.out.below.size (Nat.le_refl _))) HBW.out) hbg (by decide) 2 (.bool bd2))
            have HVL := Aside0.mk (Kd.R_lt HO7.out)
            clear hbg
            have y9 := (zaa HCC10.out 9).trans rfl
            have u0 := (zaa HL10.out 0).trans rfl
            have u1 := (zaa HL10.out 1).trans rfl
            have u2 := (zaa HL10.out 2).trans rfl
            have u3 := (zaa HL10.out 3).trans rfl
            have u4 := (zaa HL10.out 4).trans rfl
            have u5 := (zaa HL10.out 5).trans rfl
            have u6 := (zaa HL10.out 6).trans rfl
            have u7 := (zaa HL10.out 7).trans rfl
            have u8 := (zaa HL10.out 8).trans rfl
            have u9 := (zaa HL10.out 9).trans rfl
            have u10 := (zaa HL10.out 10).trans rfl
            have u11 := (zaa HL10.out 11).trans rfl
            have u12 := (zaa HL10.out 12).trans rfl
            have u13 := (zaa HL10.out 13).trans rfl
            have hsz : w9.heap.size = (w9.setCell ⟨w.heap.size + 1, 2, none⟩ (.bool bd2)).heap.size := by simp
            have HSZ := Aside0.mk hsz
            obtain ⟨w10, hw10⟩ : ∃ w10, w9.setCell ⟨w.heap.size + 1, 2, none⟩ (.bool bd2) = w10 := ⟨_, rfl⟩
            rw [hw10] at H10 HCC10 HRR10 HL10 HO10 HON HOM HSZ y9 u0 u1 u2 u3 u4 u5 u6 u7 u8 u9 u10 u11 u12 u13
            rw [hw10]
            clear hw10 hsz hcut
            have hwx : wrap64 (x + 1) = x + 1 := by have := HN.out; unfold wrap64; omega
            go_wp2_with (first
              | ((with_reducible refine zcd (b := .append) (xs := #[.tmp 59, .tmp 61]) rfl ?_); at_builtin; go_must (refine Kd.zdd k38 (w0 := w) w.heap.size rfl (.tmp 59) (.tmp 61) 62 38 (.agg zLog) 192 rfl Try.underlying62 info38b rfl (by decide) (by decide) v out (ofLog lg.1) (logC lg.1 A8 k8 A9 k9).toList (fun k => w5.heap.size ≤ k) (fun k => w7.heap.size ≤ k) rfl rfl ?aP ?aK ?aF ?aO ?aB ?aS ?aL ?_); go_must (case aP => exact k38_mkM w10 w.heap.size _ (ofLog lg.1) HON.out HOM.out); (case aK => intro k hk; refine ⟨by have := HSz.out; have := HK6.out; have := HK7.out; omega, fun he => ?_⟩; have := HVL.out k he.symm; omega); (case aF => intro k hk; have := HSz.out; have := HK6.out; have := HK7.out; have := HK8.out; have := HK9.out; have := HSZ.out; omega); (case aO => exact HO10.out); (case aB => exact H10.out.below); (case aS => exact zaz H10.out.below); (case aL => have := HLo.out; have := HN.out; omega); intro v11 w11 ho11 hb11 hg11 hat11; obtain ⟨A11, m11, q11, e11⟩ := zcp ho11; subst e11; have HO11 := Aside0.mk ho11; have HB11 := Aside0.mk hb11; have HG11 := Aside0.mk hg11; have hcc11 := zbm HCC10.out hg11 (Kd.R_ne HO10.out HCC10.out (by decide)); have HCC11 := Aside0.mk hcc11; have x9 := (zaa hcc11 9).trans rfl; have fz11 := zab hcc11 9; have HRR11 := Aside0.mk (zbm HRR10.out hg11 (Kd.R_ne HO10.out HRR10.out (by decide))); clear ho11 hb11 hg11 hat11 hcc11))
            go_roundw
            case rel =>
              have hm := HM2.out
              rw [if_neg HCT.out] at hm
              refine ⟨x + 1, (textR t).2, out ++ [ofLog lg.1], bd2, _, congrArg (Value.int .i64) hwx, ⟨by omega⟩, ⟨?_, ?_, ?_⟩, ⟨Kd.zfx HO11.out HCC11.out (by decide) 9 _⟩, ⟨RSt.far (RSt.grown H10.out HG11.out (RSt.neR H10.out HO10.out (by decide)) HB11.out) (by omega) (by omega) _⟩, ⟨zdb HCC11.out 9 _⟩, ⟨zbi HRR11.out (by show w.heap.size ≠ w.heap.size + 1 + 1; omega) _⟩, ⟨HTB.out.2, Nat.le_trans (zgi t) HBL.out.2⟩, ⟨?_⟩, ⟨?_⟩⟩
              · rw [← hm.1, show getLog (textR t).1 = lg from HLG.out]
                simp
              · rw [← hm.2.1, ← HBD.out, show getLog (textR t).1 = lg from HLG.out, Bool.or_assoc]
              · exact hm.2.2
              · have := HLo.out
                simp
                omega
              · have := HSz.out; have := HK6.out; have := HK7.out; have := HK8.out; have := HK9.out; have := HSZ.out; have := HG11.out.size; simp; omega
            case measure => simp [intOf]; omega
      · have e1 : decide (x < n) = false := decide_eq_false c
        go_wp2
        go_meet
        have hm := HM.out
        rw [show (n - x).toNat = 0 by omega] at hm
        refine ⟨v, ⟨?_⟩, ⟨?_⟩, HCC, HRR⟩
        · rw [← hm.2.2, ← hm.2.1]
          simpa [logsGo] using HT.out
        · rw [← hm.1]
          simpa [logsGo] using HO.out
  case rest =>
    obtain ⟨v6, H6, HO6, HCC6, HRR6⟩ := hcut
    have hg5 := H5.out.lt
    have HG5 := Aside0.mk hg5
    have HSZ5 := Aside0.mk (show w.heap.size + 1 + 1 < w5.heap.size from zdp HX5.out)
    have B6 := Aside0.mk (show Bs (g6 xs).2.2.1 from zid _ _ BL5.out.1)
    have L6 := Aside0.mk (show (g6 xs).2.2.1.length ≤ xs.length from Nat.le_trans (logsGo_le _ _) BL5.out.2)
    have B7 := Aside0.mk (show Bs (g7 xs).2.1 from zdr 2 _ B6.out)
    have L7 := Aside0.mk (show (g7 xs).2.1.length ≤ xs.length from Nat.le_trans (zdu 2 _) L6.out)
    have BL8 := Aside0.mk (show Bs (g8 xs).2.1 ∧ (g8 xs).2.1.length ≤ xs.length from ⟨zhm _ B7.out, Nat.le_trans (zhl _) L7.out⟩)
    have HN8 : Aside0 (0 ≤ (g8 xs).1 ∧ (g8 xs).1 ≤ 68719476736) := ⟨by
      have h := zgy (g7 xs).2 B7.out
      have h2 := L7.out
      have h3 := HB.out
      simp only [g8]
      omega⟩
    clear hg5
    go_upto_block 2 with (first
      | (go_at_call 57; (with_reducible refine (numbersAB w wc (w.heap.size + 1) (g6 xs).2.2 (g6 xs).2.1 (w.heap.size + 1 + 1) (g2 xs).1 ca cb v6 H6.out B6.out HCC6.out ?q1).mono ?_); (case q1 => omega); rintro e w7 ⟨rfl, h7, hx7, hk7⟩; have H7 := Aside0.mk (show RSt w w7 (w.heap.size + 1) (g7 xs).2 (g6 xs).2.1 from h7); have HCC7 := Aside0.mk (show w7.heap[w.heap.size + 1 + 1]? = some (cellO (g2 xs).1 false ca cb v6 (rd (g7 xs).1 0) (rd (g7 xs).1 1) (.slice none 0 0) ⟨#[]⟩ 0) from hx7); have HRR7 := Aside0.mk (RSt.keepC H6.out hk7 HRR6.out (by decide) (by omega)); have HO7 := Aside0.mk (Kd.zfv HO6.out (w1 := w7) (fun k ho hlt => hk7.2 k hlt (by have := HSZ5.out; omega) (by intro he; injection he with he; have := HSZ5.out; omega))); clear h7 hx7 hk7)
      | (go_at_call 58; (with_reducible refine (zge w _ (w.heap.size + 1) (g7 xs).2 (g6 xs).2.1 H7.out B7.out ?q2).mono ?_); (case q2 => have := HB.out; have := L7.out; omega); rintro e w8 ⟨rfl, h8, hk8⟩; have H8 := Aside0.mk (show RSt w w8 (w.heap.size + 1) (g8 xs).2 (g6 xs).2.1 from h8); have HCC8 := Aside0.mk (H7.out.other hk8 HCC7.out (by decide)); have HRR8 := Aside0.mk (H7.out.other hk8 HRR7.out (by decide)); have HO8 := Aside0.mk (Kd.zbh (Kd.zek (Kd.zdg HO7.out hk8 (fun k hk => by have := HSZ5.out; omega))) (ok' := fun k => w5.heap.size ≤ k ∧ k < w8.heap.size) (fun k hk => ⟨hk.1, hk.2.2.1⟩)); clear h8 hk8))
    have HSZ8 := Aside0.mk (show w.heap.size + 1 + 1 < w8.heap.size from zdp HCC8.out)
    obtain ⟨n2, hn⟩ : ∃ n, (cntR (g7 xs).2).1 = n := ⟨_, rfl⟩
    have HNN2 := Aside0.mk (show (g8 xs).1 = n2 from hn)
    rw [HNN2.out] at HN8
    rw [hn]
    clear hn
    obtain ⟨bad, hbad⟩ : ∃ b, (g6 xs).2.1 = b := ⟨_, rfl⟩
    rw [hbad] at H8
    have HBAD := Aside0.mk hbad
    obtain ⟨sa, hsa⟩ : ∃ b, rd (g7 xs).1 0 = b := ⟨_, rfl⟩
    obtain ⟨st, hst⟩ : ∃ b, rd (g7 xs).1 1 = b := ⟨_, rfl⟩
    rw [hsa, hst] at HCC8
    have HSA := Aside0.mk hsa
    have HST := Aside0.mk hst
    clear hbad hsa hst
    go_cut [] (fun wc => ∃ (v2 : Value), Aside0 (RSt w wc (w.heap.size + 1) (g9 xs).2 bad) ∧ Aside0 (Kd.R k38 38 wc w.heap.size (fun k => w5.heap.size ≤ k ∧ k < w8.heap.size) v6 (g6 xs).1) ∧ Aside0 (Kd.R (Kd.int .i64) 3 wc w.heap.size (fun k => w8.heap.size ≤ k) v2 (g9 xs).1) ∧ Aside0 (wc.heap[w.heap.size + 1 + 1]? = some (cellO (g2 xs).1 false ca cb v6 sa st v2 ⟨#[]⟩ 0)) ∧ Aside0 (wc.heap[w.heap.size]? = some (.cells zeroC 66 (0, 0))))
    case first =>
      go_wp2_with fail
      go_loopw [74] (fun i wr => ∃ (x : Int) (t : St) (out : List Int) (v2 : Value), i = .int .i64 x ∧ Aside0 (0 ≤ x ∧ x ≤ n2) ∧ Aside0 (out ++ (nodesGo (n2 - x).toNat t).1 = (g9 xs).1 ∧ (nodesGo (n2 - x).toNat t).2 = (g9 xs).2) ∧ Aside0 (Kd.R k38 38 wr w.heap.size (fun k => w5.heap.size ≤ k ∧ k < w8.heap.size) v6 (g6 xs).1) ∧ Aside0 (Kd.R (Kd.int .i64) 3 wr w.heap.size (fun k => w8.heap.size ≤ k) v2 out) ∧ Aside0 (RSt w wr (w.heap.size + 1) t bad) ∧ Aside0 (wr.heap[w.heap.size + 1 + 1]? = some (cellO (g2 xs).1 false ca cb v6 sa st v2 ⟨#[]⟩ 0)) ∧ Aside0 (wr.heap[w.heap.size]? = some (.cells zeroC 66 (0, 0))) ∧ Aside0 (Bs t.1 ∧ t.1.length ≤ xs.length) ∧ Aside0 ((out.length : Int) = x) ∧ Aside0 (w8.heap.size ≤ wr.heap.size)) (fun i _ => (n2 - intOf i).toNat)
      case atStart => exact ⟨0, (g8 xs).2, [], .slice none 0 0, rfl, ⟨by have := HN8.out; omega⟩, ⟨by simp [g9, HNN2.out]⟩, HO8, ⟨Kd.zdf _ _ _ _ _⟩, H8, HCC8, HRR8, BL8, ⟨rfl⟩, ⟨Nat.le_refl _⟩⟩
      case round =>
        obtain ⟨x, t, out, v2, rfl, HX, HM, HO, HO2, HT, HCC, HRR, HBL, HLo, HSz⟩ := hrel
        obtain ⟨hx0, hx1⟩ := HX.out
        by_cases c : x < n2
        · have e1 : decide (x < n2) = true := decide_eq_true c
          have hwx : wrap64 (x + 1) = x + 1 := by have := HN8.out; unfold wrap64; omega
          have e2 : (n2 - x).toNat = (n2 - (x + 1)).toNat + 1 := by omega
          have hm := HM.out
          rw [e2, nodesGo] at hm
          have HM2 := Aside0.mk hm
          clear e2 hm
          by_cases ct : (numR t).2.2 = 150
          · have hsh : decide ((numR t).2.2 = 150) = true := decide_eq_true ct
            have HCT := Aside0.mk ct
            clear ct
            go_wp2_with (go_at_call 57; (with_reducible refine (number1 w (wr.alloc (.cells #[.int .i64 0] 3)) (w.heap.size + 1) t bad wr.heap.size _ (HT.out.alloc _) HBL.out.1 (zbt wr _) ?q3 ?q4).mono ?_); (case q3 => exact HT.out.below.size); (case q4 => simp); rintro e w21 ⟨rfl, h21, hx21, hk21⟩; have hk21' := zar hk21; have hlt := zdp HCC.out; have hltg := HT.out.lt; have H21 := Aside0.mk h21; have HCC21 := Aside0.mk (hk21'.blk HCC.out (by omega) (by intro he; injection he with he; omega)); have HRR21 := Aside0.mk (hk21'.blk HRR.out (by omega) (by intro he; injection he with he; omega)); have HO21 := Aside0.mk (Kd.zfv HO.out (w1 := w21) (fun k ho hlt2 => hk21'.2 k hlt2 (by have := HSZ5.out; omega) (by intro he; injection he with he; omega))); have HP21 := Aside0.mk (Kd.zfv HO2.out (w1 := w21) (fun k ho hlt2 => hk21'.2 k hlt2 (by have := HSZ5.out; have := HSZ8.out; omega) (by intro he; injection he with he; omega))); have HK21 := Aside0.mk hk21'.1; obtain ⟨Az, kz, c0, c1, c2, f1, f2, hmz⟩ := h21.parts; have u0 := (zaa hx21 0).trans rfl; simp only [sh] at c1; rw [hsh] at c1; have y12 := (zaa HCC21.out 12).trans rfl; clear h21 hx21 hk21 hk21' hlt hltg)
            go_meet
            have hm := HM2.out
            rw [if_pos HCT.out] at hm
            refine ⟨v2, ⟨?_⟩, HO21, ⟨?_⟩, HCC21, HRR21⟩
            · rw [← hm.2]
              exact H21.out
            · rw [← hm.1, List.append_nil]
              exact HP21.out
          · have hsh : decide ((numR t).2.2 = 150) = false := decide_eq_false ct
            have HCT := Aside0.mk ct
            clear ct
            go_wp2_with (first
              | (go_at_call 57; (with_reducible refine (number1 w (wr.alloc (.cells #[.int .i64 0] 3)) (w.heap.size + 1) t bad wr.heap.size _ (HT.out.alloc _) HBL.out.1 (zbt wr _) ?q3 ?q4).mono ?_); (case q3 => exact HT.out.below.size); (case q4 => simp); rintro e w21 ⟨rfl, h21, hx21, hk21⟩; have hk21' := zar hk21; have hlt := zdp HCC.out; have hltg := HT.out.lt; have H21 := Aside0.mk h21; have HCC21 := Aside0.mk (hk21'.blk HCC.out (by omega) (by intro he; injection he with he; omega)); have HRR21 := Aside0.mk (hk21'.blk HRR.out (by omega) (by intro he; injection he with he; omega)); have HO21 := Aside0.mk (Kd.zfv HO.out (w1 := w21) (fun k ho hlt2 => hk21'.2 k hlt2 (by have := HSZ5.out; omega) (by intro he; injection he with he; omega))); have HP21 := Aside0.mk (Kd.zfv HO2.out (w1 := w21) (fun k ho hlt2 => hk21'.2 k hlt2 (by have := HSZ5.out; have := HSZ8.out; omega) (by intro he; injection he with he; omega))); have HK21 := Aside0.mk hk21'.1; obtain ⟨Az, kz, c0, c1, c2, f1, f2, hmz⟩ := h21.parts; have u0 := (zaa hx21 0).trans rfl; simp only [sh] at c1; rw [hsh] at c1; have y12 := (zaa HCC21.out 12).trans rfl; clear h21 hx21 hk21 hk21' hlt hltg)
              | ((with_reducible refine zcd (b := .append) (xs := #[.tmp 85, .tmp 87]) rfl ?_); at_builtin; go_must (refine Kd.zdd (Kd.int .i64) (w0 := w) w.heap.size rfl (.tmp 85) (.tmp 87) 36 3 (.int .i64 0) 8 rfl Try.underlying36 info3 rfl (by decide) (by decide) v2 out (numR t).1 [.int .i64 (numR t).1] (fun k => w8.heap.size ≤ k) (fun _ => False) rfl rfl ?aP (fun _ hk => hk.elim) ?aF ?aO ?aB ?aS ?aL ?_); go_must (case aP => exact rfl); (case aF => intro k hk; have := HSz.out; have := HK21.out; omega); (case aO => exact HP21.out); (case aB => exact H21.out.below); (case aS => exact zaz H21.out.below); (case aL => have := HLo.out; have := HN8.out; omega); intro v22 w22 ho22 hb22 hg22 hat22; obtain ⟨A22, m22, q22, e22⟩ := zcp ho22; subst e22; have HO22 := Aside0.mk ho22; have HB22 := Aside0.mk hb22; have HG22 := Aside0.mk hg22; have hcc22 := zbm HCC21.out hg22 (Kd.R_ne HP21.out HCC21.out (by decide)); have HCC22 := Aside0.mk hcc22; have x12 := (zaa hcc22 12).trans rfl; have fz22 := zab hcc22 12; have HRR22 := Aside0.mk (zbm HRR21.out hg22 (Kd.R_ne HP21.out HRR21.out (by decide))); have HV22 := Aside0.mk (Kd.zeo HO21.out hg22 (fun k hk he => by have := HP21.out.1 k he.symm; omega)); clear ho22 hb22 hg22 hat22 hcc22))
            go_roundw
            case rel =>
              have hm := HM2.out
              rw [if_neg HCT.out] at hm
              refine ⟨x + 1, (numR t).2, out ++ [(numR t).1], _, congrArg (Value.int .i64) hwx, ⟨by omega⟩, ⟨?_, ?_⟩, ⟨Kd.zfx HV22.out HCC22.out (by decide) 12 _⟩, ⟨Kd.zfx HO22.out HCC22.out (by decide) 12 _⟩, ⟨RSt.far (RSt.grown H21.out HG22.out (RSt.neR H21.out HP21.out (by decide)) HB22.out) (by omega) (by omega) _⟩, ⟨zdb HCC22.out 12 _⟩, ⟨zbi HRR22.out (by show w.heap.size ≠ w.heap.size + 1 + 1; omega) _⟩, ⟨zcw t HBL.out.1, Nat.le_trans (zfe t) HBL.out.2⟩, ⟨?_⟩, ⟨?_⟩⟩
              · rw [← hm.1]
                simp
              · exact hm.2
              · have := HLo.out
                simp
                omega
              · have := HSz.out; have := HK21.out; have := HG22.out.size; simp; omega
            case measure => simp [intOf]; omega
        · have e1 : decide (x < n2) = false := decide_eq_false c
          go_wp2
          go_meet
          have hm := HM.out
          rw [show (n2 - x).toNat = 0 by omega] at hm
          refine ⟨v2, ⟨?_⟩, HO, ⟨?_⟩, HCC, HRR⟩
          · rw [← hm.2]
            simpa [nodesGo] using HT.out
          · rw [← hm.1]
            simpa [nodesGo] using HO2.out
    case rest =>
      obtain ⟨v9, H9, HO9, HP9, HCC9, HRR9⟩ := hcut
      obtain ⟨A6, c6, hv6⟩ := Kd.zbu HO9.out
      subst hv6
      obtain ⟨A9, c9, hv9⟩ := Kd.zbu HP9.out
      subst hv9
      have B9 := Aside0.mk (show Bs (g9 xs).2.1 from zgm _ _ BL8.out.1)
      have HRW := Aside0.mk (zfb (g9 xs).2 B9.out).1
      have HM1 := Aside0.mk HC1.out.2.1
      go_upto_block 4 with (first
        | (go_at_call 59; (with_reducible refine (zee w wc _ (g9 xs).2 bad H9.out B9.out).mono ?_); rintro e w30 ⟨rfl, h30, hk30⟩; have H30 := Aside0.mk h30; have HCC30 := Aside0.mk (H9.out.other hk30 HCC9.out (by decide)); have HRR30 := Aside0.mk (H9.out.other hk30 HRR9.out (by decide)); have HO30 := Aside0.mk (Kd.zdg HO9.out hk30 (fun k hk => by have := HSZ5.out; omega)); have HP30 := Aside0.mk (Kd.zdg HP9.out hk30 (fun k hk => by have := HSZ8.out; omega)); clear h30 hk30)
        | (go_at_call 56; (with_reducible refine (zeb w w30 _ (raw (g9 xs).2).2 bad (raw (g9 xs).2).1 H30.out HRW.out).mono ?_); rintro e w31 ⟨⟨A31, k31, rfl, hc31, hl31⟩, h31, hk31⟩; have s31 := Kd.zgq (P := Try.prog) (src := 27) (dst := 9) (c := k31) Try.underlying27 Try.underlying5 Try.underlying9 (Kd.zci hc31 h31.below); have H31 := Aside0.mk (show RSt w w31 (w.heap.size + 1) (g10 xs).2 bad from h31); have HCC31 := Aside0.mk (H30.out.other hk31 HCC30.out (by decide)); have HRR31 := Aside0.mk (H30.out.other hk31 HRR30.out (by decide)); have HO31 := Aside0.mk (Kd.zdg HO30.out hk31 (fun k hk => by have := HSZ5.out; omega)); have HP31 := Aside0.mk (Kd.zdg HP30.out hk31 (fun k hk => by have := HSZ8.out; omega)); have x13 := (zaa HCC31.out 13).trans rfl; have fz13 := zab HCC31.out 13; clear hc31 hl31 h31 hk31))
      have H32 := Aside0.mk (RSt.far H31.out (b := w.heap.size + 1 + 1) (j := 13) (by omega) (by omega) (.string (strOfNums (take (raw (g9 xs).2).2 (raw (g9 xs).2).1).1)))
      have HCC32 := Aside0.mk (show (w31.setCell ⟨w.heap.size + 1 + 1, 13, none⟩ (.string (strOfNums (take (raw (g9 xs).2).2 (raw (g9 xs).2).1).1))).heap[w.heap.size + 1 + 1]? = some (cellO (g2 xs).1 false ca cb (.slice A6 (g6 xs).1.length c6) sa st (.slice A9 (g9 xs).1.length c9) (strOfNums (g10 xs).1) 0) from zdb HCC31.out 13 _)
      have HRR32 := Aside0.mk (zbi HRR31.out (p := ⟨w.heap.size + 1 + 1, 13, none⟩) (by show w.heap.size ≠ w.heap.size + 1 + 1; omega) (.string (strOfNums (take (raw (g9 xs).2).2 (raw (g9 xs).2).1).1)))
      have HO32 := Aside0.mk (Kd.zfx HO31.out HCC31.out (by decide) 13 (.string (strOfNums (take (raw (g9 xs).2).2 (raw (g9 xs).2).1).1)))
      have HP32 := Aside0.mk (Kd.zfx HP31.out HCC31.out (by decide) 13 (.string (strOfNums (take (raw (g9 xs).2).2 (raw (g9 xs).2).1).1)))
      obtain ⟨w32, hw32⟩ : ∃ w32, w31.setCell ⟨w.heap.size + 1 + 1, 13, none⟩ (.string (strOfNums (take (raw (g9 xs).2).2 (raw (g9 xs).2).1).1)) = w32 := ⟨_, rfl⟩
      rw [hw32] at H32 HCC32 HRR32 HO32 HP32
      rw [hw32]
      clear hw32 x13 fz13 s31
      obtain ⟨Az, kz, p0, p1, p2, f1, f2, hmz⟩ := H32.out.parts
      simp only [sh] at p1
      by_cases ct : (g10 xs).2.2 = 150
      · have hsh : decide ((g10 xs).2.2 = 150) = true := decide_eq_true ct
        have HG := Aside0.mk (show getRpc xs = (zeroRpc, 150) by simp [getRpc, gErr, ct])
        rw [hsh] at p1
        clear ct
        go_wp2_with ((with_reducible refine zbw (t := 66) (p := 2) rfl ?_); go_must (refine Ca.zbq (g := w.heap.size) (e := 66) (old := zeroC) (cs := zeroC) rfl rfl 66 (.tmp 2) (.tmp 104) rfl rfl rfl ?hb rfl info66 ?h1 ?_); go_must (case hb => exact HRR32.out); go_must (case h1 => exact fun q hq => List.all_eq_true.1 (show zeroC.toList.all (fun q => q.oneCell') = true from rfl) q hq); intro w33 hb33 hg33; have HB33 := Aside0.mk hb33; have HG33 := Aside0.mk hg33; clear hb33 hg33)
        all_goals
          have z0 := (zaa HB33.out 0).trans rfl
          have z1 := (zaa HB33.out 1).trans rfl
          have z2 := (zaa HB33.out 2).trans rfl
          have z3 := (zaa HB33.out 3).trans rfl
          have z4 := (zaa HB33.out 4).trans rfl
          have z5 := (zaa HB33.out 5).trans rfl
          have z6 := (zaa HB33.out 6).trans rfl
          have z7 := (zaa HB33.out 7).trans rfl
          have z8 := (zaa HB33.out 8).trans rfl
          have z9 := (zaa HB33.out 9).trans rfl
          have z10 := (zaa HB33.out 10).trans rfl
          have z11 := (zaa HB33.out 11).trans rfl
          have z12 := (zaa HB33.out 12).trans rfl
          have z13 := (zaa HB33.out 13).trans rfl
          refine bodyPost_ret (v := .tuple #[rpcV zeroRpc none 0 none 0, .int .i64 150]) (by simp [results, Try.results30, go_sem, z0, z1, z2, z3, z4, z5, z6, z7, z8, z9, z10, z11, z12, z13, zeroRpc]) rfl ?_
          exact GetOut.bad HG.out (H32.out.below.grown HG33.out H32.out.below.size (fun k hk => by injection hk with hk; omega))
      · have hsh : decide ((g10 xs).2.2 = 150) = false := decide_eq_false ct
        have HCT := Aside0.mk ct
        rw [hsh] at p1
        clear ct
        by_cases cl : 0 < (g10 xs).2.1.length
        · have HG := Aside0.mk (show getRpc xs = (zeroRpc, 151) by simp only [getRpc, gErr, if_neg HCT.out, if_pos cl]; rfl)
          have d1 : decide (0 < (g10 xs).2.1.length) = true := decide_eq_true cl
          have d2 : decide (0 < ((g10 xs).2.1.length : Int)) = true := decide_eq_true (by omega)
          clear cl
          go_wp2_with ((with_reducible refine zbw (t := 66) (p := 2) rfl ?_); go_must (refine Ca.zbq (g := w.heap.size) (e := 66) (old := zeroC) (cs := zeroC) rfl rfl 66 (.tmp 2) (.tmp 112) rfl rfl rfl ?hb rfl info66 ?h1 ?_); go_must (case hb => exact HRR32.out); go_must (case h1 => exact fun q hq => List.all_eq_true.1 (show zeroC.toList.all (fun q => q.oneCell') = true from rfl) q hq); intro w33 hb33 hg33; have HB33 := Aside0.mk hb33; have HG33 := Aside0.mk hg33; clear hb33 hg33)
          all_goals
            have z0 := (zaa HB33.out 0).trans rfl
            have z1 := (zaa HB33.out 1).trans rfl
            have z2 := (zaa HB33.out 2).trans rfl
            have z3 := (zaa HB33.out 3).trans rfl
            have z4 := (zaa HB33.out 4).trans rfl
            have z5 := (zaa HB33.out 5).trans rfl
            have z6 := (zaa HB33.out 6).trans rfl
            have z7 := (zaa HB33.out 7).trans rfl
            have z8 := (zaa HB33.out 8).trans rfl
            have z9 := (zaa HB33.out 9).trans rfl
            have z10 := (zaa HB33.out 10).trans rfl
            have z11 := (zaa HB33.out 11).trans rfl
            have z12 := (zaa HB33.out 12).trans rfl
            have z13 := (zaa HB33.out 13).trans rfl
            refine bodyPost_ret (v := .tuple #[rpcV zeroRpc none 0 none 0, .int .i64 151]) (by simp [results, Try.results30, go_sem, z0, z1, z2, z3, z4, z5, z6, z7, z8, z9, z10, z11, z12, z13, zeroRpc]) rfl ?_
            exact GetOut.bad HG.out (H32.out.below.grown HG33.out H32.out.below.size (fun k hk => by injection hk with hk; omega))
        · have d1 : decide (0 < (g10 xs).2.1.length) = false := decide_eq_false cl
          have d2 : decide (0 < ((g10 xs).2.1.length : Int)) = false := decide_eq_false (by omega)
          have HCL := Aside0.mk cl
          clear cl
          obtain ⟨hl1, hl3⟩ := g_whole xs HCT.out
          obtain ⟨ad1, e1, hcell1⟩ := Kd.zfg (Kd.zci HC1.out H32.out.below) 0 (by omega) (by rw [hl1]; decide)
          obtain ⟨ad3, e3, hcell3⟩ := Kd.zfg (Kd.zci HC3.out H32.out.below) 0 (by omega) (by rw [hl3]; decide)
          cases e1
          cases e3
          have hl1' : (take (xs, 0) 1).1.length = 1 := hl1
          have hl3' : (take (g2 xs).2 1).1.length = 1 := hl3
          obtain ⟨kk, hkk⟩ : ∃ k, rd (g1 xs).1 0 = k := ⟨_, rfl⟩
          obtain ⟨oo, hoo⟩ : ∃ k, rd (g3 xs).1 0 = k := ⟨_, rfl⟩
          rw [hkk] at hcell1
          rw [hoo] at hcell3
          have hc1a : w32.cell? (ad1.add 0) = some (.int .u8 kk) := hcell1
          have hc3a : w32.cell? (ad3.add 0) = some (.int .u8 oo) := hcell3
          have hc1b : w32.cell? ad1 = some (.int .u8 kk) := hcell1
          have hc3b : w32.cell? ad3 = some (.int .u8 oo) := hcell3
          have HKK := Aside0.mk hkk
          have HOO := Aside0.mk hoo
          clear hkk hoo hl1 hl3
          by_cases cb2 : bad = true ∨ 1 < oo ∨ kk < 1 ∨ 6 < kk
          · have HG := Aside0.mk (show getRpc xs = (zeroRpc, 31) by simp only [getRpc, gErr, if_neg HCT.out, if_neg HCL.out, HBAD.out, HKK.out, HOO.out, if_pos cb2]; rfl)
            cases bad
            · by_cases q1 : 1 < oo
              · have r1 : decide (1 < oo) = true := decide_eq_true q1
                clear cb2
                go_wp2_with ((with_reducible refine zbw (t := 66) (p := 2) rfl ?_); go_must (refine Ca.zbq (g := w.heap.size) (e := 66) (old := zeroC) (cs := zeroC) rfl rfl 66 (.tmp 2) (.tmp 136) rfl rfl rfl ?hb rfl info66 ?h1 ?_); go_must (case hb => exact HRR32.out); go_must (case h1 => exact fun q hq => List.all_eq_true.1 (show zeroC.toList.all (fun q => q.oneCell') = true from rfl) q hq); intro w33 hb33 hg33; have HB33 := Aside0.mk hb33; have HG33 := Aside0.mk hg33; clear hb33 hg33)
                all_goals
                  have z0 := (zaa HB33.out 0).trans rfl
                  have z1 := (zaa HB33.out 1).trans rfl
                  have z2 := (zaa HB33.out 2).trans rfl
                  have z3 := (zaa HB33.out 3).trans rfl
                  have z4 := (zaa HB33.out 4).trans rfl
                  have z5 := (zaa HB33.out 5).trans rfl
                  have z6 := (zaa HB33.out 6).trans rfl
                  have z7 := (zaa HB33.out 7).trans rfl
                  have z8 := (zaa HB33.out 8).trans rfl
                  have z9 := (zaa HB33.out 9).trans rfl
                  have z10 := (zaa HB33.out 10).trans rfl
                  have z11 := (zaa HB33.out 11).trans rfl
                  have z12 := (zaa HB33.out 12).trans rfl
                  have z13 := (zaa HB33.out 13).trans rfl
                  refine bodyPost_ret (v := .tuple #[rpcV zeroRpc none 0 none 0, .int .i64 31]) (by simp [results, Try.results30, go_sem, z0, z1, z2, z3, z4, z5, z6, z7, z8, z9, z10, z11, z12, z13, zeroRpc]) rfl ?_
                  exact GetOut.bad HG.out (H32.out.below.grown HG33.out H32.out.below.size (fun k hk => by injection hk with hk; omega))
              · have r1 : decide (1 < oo) = false := decide_eq_false q1
                by_cases q2 : kk < 1
                · have r2 : decide (kk < 1) = true := decide_eq_true q2
                  clear cb2
                  go_wp2_with ((with_reducible refine zbw (t := 66) (p := 2) rfl ?_); go_must (refine Ca.zbq (g := w.heap.size) (e := 66) (old := zeroC) (cs := zeroC) rfl rfl 66 (.tmp 2) (.tmp 136) rfl rfl rfl ?hb rfl info66 ?h1 ?_); go_must (case hb => exact HRR32.out); go_must (case h1 => exact fun q hq => List.all_eq_true.1 (show zeroC.toList.all (fun q => q.oneCell') = true from rfl) q hq); intro w33 hb33 hg33; have HB33 := Aside0.mk hb33; have HG33 := Aside0.mk hg33; clear hb33 hg33)
                  all_goals
                    have z0 := (zaa HB33.out 0).trans rfl
                    have z1 := (zaa HB33.out 1).trans rfl
                    have z2 := (zaa HB33.out 2).trans rfl
                    have z3 := (zaa HB33.out 3).trans rfl
                    have z4 := (zaa HB33.out 4).trans rfl
                    have z5 := (zaa HB33.out 5).trans rfl
                    have z6 := (zaa HB33.out 6).trans rfl
                    have z7 := (zaa HB33.out 7).trans rfl
                    have z8 := (zaa HB33.out 8).trans rfl
                    have z9 := (zaa HB33.out 9).trans rfl
                    have z10 := (zaa HB33.out 10).trans rfl
                    have z11 := (zaa HB33.out 11).trans rfl
                    have z12 := (zaa HB33.out 12).trans rfl
                    have z13 := (zaa HB33.out 13).trans rfl
                    refine bodyPost_ret (v := .tuple #[rpcV zeroRpc none 0 none 0, .int .i64 31]) (by simp [results, Try.results30, go_sem, z0, z1, z2, z3, z4, z5, z6, z7, z8, z9, z10, z11, z12, z13, zeroRpc]) rfl ?_
                    exact GetOut.bad HG.out (H32.out.below.grown HG33.out H32.out.below.size (fun k hk => by injection hk with hk; omega))
                · have r2 : decide (kk < 1) = false := decide_eq_false q2
                  have r3 : decide (6 < kk) = true := decide_eq_true (by rcases cb2 with h | h | h | h; cases h; exact absurd h q1; exact absurd h q2; exact h)
                  clear cb2
                  go_wp2_with ((with_reducible refine zbw (t := 66) (p := 2) rfl ?_); go_must (refine Ca.zbq (g := w.heap.size) (e := 66) (old := zeroC) (cs := zeroC) rfl rfl 66 (.tmp 2) (.tmp 136) rfl rfl rfl ?hb rfl info66 ?h1 ?_); go_must (case hb => exact HRR32.out); go_must (case h1 => exact fun q hq => List.all_eq_true.1 (show zeroC.toList.all (fun q => q.oneCell') = true from rfl) q hq); intro w33 hb33 hg33; have HB33 := Aside0.mk hb33; have HG33 := Aside0.mk hg33; clear hb33 hg33)
                  all_goals
                    have z0 := (zaa HB33.out 0).trans rfl
                    have z1 := (zaa HB33.out 1).trans rfl
                    have z2 := (zaa HB33.out 2).trans rfl
                    have z3 := (zaa HB33.out 3).trans rfl
                    have z4 := (zaa HB33.out 4).trans rfl
                    have z5 := (zaa HB33.out 5).trans rfl
                    have z6 := (zaa HB33.out 6).trans rfl
                    have z7 := (zaa HB33.out 7).trans rfl
                    have z8 := (zaa HB33.out 8).trans rfl
                    have z9 := (zaa HB33.out 9).trans rfl
                    have z10 := (zaa HB33.out 10).trans rfl
                    have z11 := (zaa HB33.out 11).trans rfl
                    have z12 := (zaa HB33.out 12).trans rfl
                    have z13 := (zaa HB33.out 13).trans rfl
                    refine bodyPost_ret (v := .tuple #[rpcV zeroRpc none 0 none 0, .int .i64 31]) (by simp [results, Try.results30, go_sem, z0, z1, z2, z3, z4, z5, z6, z7, z8, z9, z10, z11, z12, z13, zeroRpc]) rfl ?_
                    exact GetOut.bad HG.out (H32.out.below.grown HG33.out H32.out.below.size (fun k hk => by injection hk with hk; omega))
            · clear cb2
              go_wp2_with ((with_reducible refine zbw (t := 66) (p := 2) rfl ?_); go_must (refine Ca.zbq (g := w.heap.size) (e := 66) (old := zeroC) (cs := zeroC) rfl rfl 66 (.tmp 2) (.tmp 136) rfl rfl rfl ?hb rfl info66 ?h1 ?_); go_must (case hb => exact HRR32.out); go_must (case h1 => exact fun q hq => List.all_eq_true.1 (show zeroC.toList.all (fun q => q.oneCell') = true from rfl) q hq); intro w33 hb33 hg33; have HB33 := Aside0.mk hb33; have HG33 := Aside0.mk hg33; clear hb33 hg33)
              all_goals
                have z0 := (zaa HB33.out 0).trans rfl
                have z1 := (zaa HB33.out 1).trans rfl
                have z2 := (zaa HB33.out 2).trans rfl
                have z3 := (zaa HB33.out 3).trans rfl
                have z4 := (zaa HB33.out 4).trans rfl
                have z5 := (zaa HB33.out 5).trans rfl
                have z6 := (zaa HB33.out 6).trans rfl
                have z7 := (zaa HB33.out 7).trans rfl
                have z8 := (zaa HB33.out 8).trans rfl
                have z9 := (zaa HB33.out 9).trans rfl
                have z10 := (zaa HB33.out 10).trans rfl
                have z11 := (zaa HB33.out 11).trans rfl
                have z12 := (zaa HB33.out 12).trans rfl
                have z13 := (zaa HB33.out 13).trans rfl
                refine bodyPost_ret (v := .tuple #[rpcV zeroRpc none 0 none 0, .int .i64 31]) (by simp [results, Try.results30, go_sem, z0, z1, z2, z3, z4, z5, z6, z7, z8, z9, z10, z11, z12, z13, zeroRpc]) rfl ?_
                exact GetOut.bad HG.out (H32.out.below.grown HG33.out H32.out.below.size (fun k hk => by injection hk with hk; omega))
          · have q0 : bad = false := by cases bad; rfl; exact absurd (.inl rfl) cb2
            have q1 : ¬ 1 < oo := fun h => cb2 (.inr (.inl h))
            have q2 : ¬ kk < 1 := fun h => cb2 (.inr (.inr (.inl h)))
            have q3 : ¬ 6 < kk := fun h => cb2 (.inr (.inr (.inr h)))
            have HG := Aside0.mk (show getRpc xs = (gRpc xs, 0) by simp only [getRpc, gErr, if_neg HCT.out, if_neg HCL.out, HBAD.out, HKK.out, HOO.out, if_neg cb2]; rfl)
            have r1 : decide (1 < oo) = false := decide_eq_false q1
            have r2 : decide (kk < 1) = false := decide_eq_false q2
            have r3 : decide (6 < kk) = false := decide_eq_false q3
            subst q0
            have HQ := Aside0.mk (And.intro q1 (And.intro q2 q3))
            clear cb2 q1 q2 q3
            go_wp2
            have y0 := (zaa HCC32.out 0).trans rfl
            have y1 := (zaa HCC32.out 1).trans rfl
            have y2 := (zaa HCC32.out 2).trans rfl
            have y3 := (zaa HCC32.out 3).trans rfl
            have y4 := (zaa HCC32.out 4).trans rfl
            have y5 := (zaa HCC32.out 5).trans rfl
            have y6 := (zaa HCC32.out 6).trans rfl
            have y7 := (zaa HCC32.out 7).trans rfl
            have y8 := (zaa HCC32.out 8).trans rfl
            have y9 := (zaa HCC32.out 9).trans rfl
            have y10 := (zaa HCC32.out 10).trans rfl
            have y11 := (zaa HCC32.out 11).trans rfl
            have y12 := (zaa HCC32.out 12).trans rfl
            have y13 := (zaa HCC32.out 13).trans rfl
            have fy0 := zab HCC32.out 0
            have fy6 := zab HCC32.out 6
            have hw64 : wrap64 kk = kk := by have := HQ.out; unfold wrap64; omega
            have HGR : Aside0 (gRpc xs = ⟨kk, rd (g2 xs).1 0, rd (g2 xs).1 1, rd (g2 xs).1 2, rd (g2 xs).1 3, rd (g2 xs).1 4, oo == 1, ca, cb, (g6 xs).1, sa, st, (g9 xs).1, strOfNums (g10 xs).1⟩) := ⟨by unfold gRpc; rw [HKK.out, HOO.out, HCA.out, HCB.out, HSA.out, HST.out]⟩
            have HRW := Aside0.mk (show (((w32.setCell ⟨w.heap.size + 1 + 1, 0, none⟩ (.int .i64 kk)).setCell ⟨w.heap.size + 1 + 1, 6, none⟩ (.bool (oo == 1))).drew).heap[w.heap.size]? = some (.cells zeroC 66 (0, 0)) from zbi (zbi HRR32.out (p := ⟨w.heap.size + 1 + 1, 0, none⟩) (by show w.heap.size ≠ w.heap.size + 1 + 1; omega) _) (p := ⟨w.heap.size + 1 + 1, 6, none⟩) (by show w.heap.size ≠ w.heap.size + 1 + 1; omega) _)
            have HBW := Aside0.mk (show Below w.heap.size w (((w32.setCell ⟨w.heap.size + 1 + 1, 0, none⟩ (.int .i64 kk)).setCell ⟨w.heap.size + 1 + 1, 6, none⟩ (.bool (oo == 1))).drew) from zae (zah (zah H32.out.below (by omega)) (by omega)))
            have HOW := Aside0.mk (Kd.zfv (Kd.zco HO32.out HCC32.out (by decide)) (w1 := ((w32.setCell ⟨w.heap.size + 1 + 1, 0, none⟩ (.int .i64 kk)).setCell ⟨w.heap.size + 1 + 1, 6, none⟩ (.bool (oo == 1))).drew) (fun k hk _ => (Below.heap_setCell _ ⟨w.heap.size + 1 + 1, 6, none⟩ _ k hk.2).trans (Below.heap_setCell _ ⟨w.heap.size + 1 + 1, 0, none⟩ _ k hk.2)))
            have HPW := Aside0.mk (Kd.zfv (Kd.zco HP32.out HCC32.out (by decide)) (w1 := ((w32.setCell ⟨w.heap.size + 1 + 1, 0, none⟩ (.int .i64 kk)).setCell ⟨w.heap.size + 1 + 1, 6, none⟩ (.bool (oo == 1))).drew) (fun k hk _ => (Below.heap_setCell _ ⟨w.heap.size + 1 + 1, 6, none⟩ _ k hk.2).trans (Below.heap_setCell _ ⟨w.heap.size + 1 + 1, 0, none⟩ _ k hk.2)))
            go_region
            go_wp2_with ((with_reducible refine zbw (t := 66) (p := 2) rfl ?_); go_must (refine Ca.zbq (g := w.heap.size) (e := 66) (old := zeroC) (cs := cells (g2 xs).1 (oo == 1) ca cb (.slice A6 (g6 xs).1.length c6) sa st (.slice A9 (g9 xs).1.length c9) (strOfNums (g10 xs).1) kk) rfl rfl 66 (.tmp 2) (.tmp 147) rfl rfl rfl ?hb rfl info66 ?h1 ?_); go_must (case hb => exact HRW.out); go_must (case h1 => exact fun q hq => List.all_eq_true.1 (show (cells (g2 xs).1 (oo == 1) ca cb (.slice A6 (g6 xs).1.length c6) sa st (.slice A9 (g9 xs).1.length c9) (strOfNums (g10 xs).1) kk).toList.all (fun q => q.oneCell') = true from rfl) q hq); intro w33 hb33 hg33; have HB33 := Aside0.mk hb33; have HG33 := Aside0.mk hg33; clear hb33 hg33)
            all_goals
              have z0 := (zaa HB33.out 0).trans rfl
              have z1 := (zaa HB33.out 1).trans rfl
              have z2 := (zaa HB33.out 2).trans rfl
              have z3 := (zaa HB33.out 3).trans rfl
              have z4 := (zaa HB33.out 4).trans rfl
              have z5 := (zaa HB33.out 5).trans rfl
              have z6 := (zaa HB33.out 6).trans rfl
              have z7 := (zaa HB33.out 7).trans rfl
              have z8 := (zaa HB33.out 8).trans rfl
              have z9 := (zaa HB33.out 9).trans rfl
              have z10 := (zaa HB33.out 10).trans rfl
              have z11 := (zaa HB33.out 11).trans rfl
              have z12 := (zaa HB33.out 12).trans rfl
              have z13 := (zaa HB33.out 13).trans rfl
              refine bodyPost_ret (v := .tuple #[rpcV ⟨kk, rd (g2 xs).1 0, rd (g2 xs).1 1, rd (g2 xs).1 2, rd (g2 xs).1 3, rd (g2 xs).1 4, oo == 1, ca, cb, (g6 xs).1, sa, st, (g9 xs).1, strOfNums (g10 xs).1⟩ A6 c6 A9 c9, .int .i64 0]) (by simp [results, Try.results30, go_sem, z0, z1, z2, z3, z4, z5, z6, z7, z8, z9, z10, z11, z12, z13]) rfl ?_
              rw [HG.out, HGR.out]
              refine ⟨A6, c6, A9, c9, rfl, ?_, ?_, HBW.out.grown HG33.out HBW.out.size (fun k hk => by injection hk with hk; omega)⟩
              · exact Kd.zbh (Kd.zeo HOW.out HG33.out (fun k hk he => by injection he with he; have := hk.1.1; have := HSZ5.out; omega)) (fun _ _ => trivial)
              · exact Kd.zbh (Kd.zeo HPW.out HG33.out (fun k hk he => by injection he with he; have := hk.1; have := HSZ8.out; omega)) (fun _ _ => trivial)
end Go.Proofs.Ytjhcbggpbfejgaa.Mg
