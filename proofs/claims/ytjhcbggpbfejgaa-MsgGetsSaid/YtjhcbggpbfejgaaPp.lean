/- The walk of the document's Parse. -/
import Derived.Test.YtjhcbggpbfejgaaPt
import Derived.Test.YtjhcbggpbfejgaaMg
import Derived.Test.YtjhcbggpbfejgaaGeRest
import Derived.Deep.RegionWith
import Derived.Deep.RegionLaw
namespace Go.Proofs.Ytjhcbggpbfejgaa.Pb
open Go.RowKit Go.Proofs.zjt.zjq Go.Proofs.zjt.zjr Go.Proofs.zjt.zjs
open Go.Proofs.Ytjhcbggpbfejgaa.Cp Go.Proofs.Ytjhcbggpbfejgaa.Pa
open Go.Proofs.Ytjhcbggpbfejgaa.XCodecGets (st zfo)
set_option linter.unusedVariables false
theorem TSt.below {A : Option Addr} {c : Nat} {xs : List Int} {w0 W W1 : World} {g : Nat} {s : St} (h : TSt A c xs w0 W g s) (hb : Below W.heap.size W W1) : TSt A c xs w0 W1 g s := by
  obtain ⟨a, sh, hI, r⟩ := h
  exact ⟨a, sh, hI.below hb, r⟩
theorem TSt.far {A : Option Addr} {c : Nat} {xs : List Int} {w0 W : World} {g : Nat} {s : St} {p : Addr} (h : TSt A c xs w0 W g s) (hne : g ≠ p.block) (v : Value) : TSt A c xs w0 (W.setCell p v) g s := by
  obtain ⟨a, sh, hI, r⟩ := h
  exact ⟨a, sh, hI.far hne v, r⟩
theorem TSt.grown {A : Option Addr} {c : Nat} {xs : List Int} {w0 W W1 : World} {g : Nat} {s : St} {row : Option Nat} (h : TSt A c xs w0 W g s) (hg : W.grownBy W1 row) (hne : some g ≠ row) : TSt A c xs w0 W1 g s := by
  obtain ⟨a, sh, hI, r⟩ := h
  exact ⟨a, sh, hI.grown hg hne, r⟩
theorem TSt.neR {A : Option Addr} {c : Nat} {xs : List Int} {w0 W : World} {g : Nat} {s : St} {α : Type} {d : Kd α} {e base : Nat} {ok : Nat → Prop} {v : Value} {ys : List α} (h : TSt A c xs w0 W g s) (ho : Kd.R d e W base ok v ys) (ht : e ≠ 113) : some g ≠ v.ownBlock := by
  obtain ⟨a, sh, ⟨A0, c0, hb, _⟩, r⟩ := h
  exact Kd.R_ne ho hb ht
/-- What the tape's cells are. -/
theorem TSt.cells {A : Option Addr} {c : Nat} {xs : List Int} {w0 W : World} {g : Nat} {s : St} (h : TSt A c xs w0 W g s) : ∃ A0 c0 a, W.heap[g]? = some (.cells #[.slice A0 xs.length c0, .int .i64 a, .bool (decide (s.2 = 150))] 113 (0, 0)) ∧ (s.1.length : Int) = xs.length - a ∧ 0 ≤ a ∧ a ≤ xs.length := by
  obtain ⟨a, sh, ⟨A0, c0, hb, _⟩, h0, h1, rfl⟩ := h
  refine ⟨A0, c0, a, ?_, zfo xs a sh false h0 h1, h0, h1⟩
  have : decide ((st xs a sh false).2 = 150) = sh := by cases sh <;> rfl
  rw [this]
  exact hb
end Go.Proofs.Ytjhcbggpbfejgaa.Pb
namespace Go.Proofs.Ytjhcbggpbfejgaa.Pp
open Go.RowKit Go.Proofs.zjt.zjq Go.Proofs.zjt.zjr Go.Proofs.zjt.zjs
open Go.Proofs.Ytjhcbggpbfejgaa.Cp Go.Proofs.Ytjhcbggpbfejgaa.Mk Go.Proofs.Ytjhcbggpbfejgaa.Mq Go.Proofs.Ytjhcbggpbfejgaa.Ms Go.Proofs.Ytjhcbggpbfejgaa.Pa Go.Proofs.Ytjhcbggpbfejgaa.Pb Go.Proofs.Ytjhcbggpbfejgaa.Pt
open Go.Proofs.Ytjhcbggpbfejgaa.Mr (cntR numsR zdr zdu)
open Go.Proofs.Ytjhcbggpbfejgaa.Mp (rpcV info38 zdz)
open Go.Proofs.Ytjhcbggpbfejgaa.Mg (zLog info38b logC info66 zeroC GetOut info3 cellO)
open Go.Proofs.Ytjhcbggpbfejgaa.Cw (info5 zcp logV bthen)
open Go.Proofs.Ytjhcbggpbfejgaa.XCodecGets (IsS50 log_s end_s st zfo)
set_option linter.unusedVariables false
set_option linter.unusedSimpArgs false
/-- What the walk keeps: the tape at s, the message's cells, the result's cells, the rows of entries and numbers. -/
structure PS (A : Option Addr) (c : Nat) (xs : List Int) (w W : World) (s : St) (cs : Array Value) (ok1 ok2 : Nat → Prop) (v : Value) (lo : List S38) (v2 : Value) (no : List Int) : Prop where
  t : TSt A c xs w W (w.heap.size + 1) s
  c : W.heap[w.heap.size + 1 + 1]? = some (.cells cs 66 (0, 0))
  z : W.heap[w.heap.size]? = some (.cells zeroC 66 (0, 0))
  l : Kd.R k38 38 W w.heap.size ok1 v lo
  n : Kd.R (Kd.int .i64) 3 W w.heap.size ok2 v2 no
  b : Below w.heap.size w W
  f1 : ∀ k, ok1 k → w.heap.size + 1 + 1 < k
  f2 : ∀ k, ok2 k → w.heap.size + 1 + 1 < k
section
variable {A : Option Addr} {c : Nat} {xs : List Int} {w W W1 : World} {s s1 : St} {cs : Array Value} {ok1 ok2 : Nat → Prop} {v v2 : Value} {lo : List S38} {no : List Int}
theorem PS.call (h : PS A c xs w W s cs ok1 ok2 v lo v2 no) (ht : TSt A c xs w W1 (w.heap.size + 1) s1) (hb : Below w.heap.size w W1) (hk : KeepBut W W1 (w.heap.size + 1) none) : PS A c xs w W1 s1 cs ok1 ok2 v lo v2 no :=
  ⟨ht, hk.blk h.c (by omega) (by simp), hk.blk h.z (by omega) (by simp), Kd.zdg h.l hk (fun k hk => by have := h.f1 k hk; omega), Kd.zdg h.n hk (fun k hk => by have := h.f2 k hk; omega), hb, h.f1, h.f2⟩
theorem PS.below (h : PS A c xs w W s cs ok1 ok2 v lo v2 no) (hb : Below W.heap.size W W1) : PS A c xs w W1 s cs ok1 ok2 v lo v2 no :=
  ⟨h.t.below hb, zbn h.c hb, zbn h.z hb, Kd.zcq h.l hb, Kd.zcq h.n hb, bthen h.b hb, h.f1, h.f2⟩
theorem PS.put (h : PS A c xs w W s cs ok1 ok2 v lo v2 no) (i : Nat) (u : Value) : PS A c xs w (W.setCell ⟨w.heap.size + 1 + 1, i, none⟩ u) s (cs.setIfInBounds i u) ok1 ok2 v lo v2 no :=
  ⟨h.t.far (by show w.heap.size + 1 ≠ w.heap.size + 1 + 1; omega) u, zdb h.c i u, zbi h.z (by show w.heap.size ≠ w.heap.size + 1 + 1; omega) u, Kd.zfx h.l h.c (by decide) i u, Kd.zfx h.n h.c (by decide) i u, zah h.b (by show w.heap.size ≤ w.heap.size + 1 + 1; omega), h.f1, h.f2⟩
theorem PS.lt (h : PS A c xs w W s cs ok1 ok2 v lo v2 no) : w.heap.size + 1 + 1 < W.heap.size := zdp h.c
end
theorem st_start (ys : List Int) : st ys 0 false false = (ys, 0) := rfl
theorem u8le (l : List Int) (hB : Bs l) (i : Int) : 0 ≤ rd l i ∧ rd l i < 256 := by
  unfold rd
  rw [List.getD_eq_getElem?_getD]
  cases h : l[i.toNat]? with
  | none => exact ⟨by simp, by simp⟩
  | some x => exact hB x (List.mem_of_getElem? h)
/-- A message's cells while the document reads it. -/
abbrev cellsP (k a b c d e : Int) (ok : Bool) (cm r : Int) (v : Value) (sa st : Int) (v2 : Value) (dt : ByteArray) : Array Value := #[.int .i64 k, .int .i64 a, .int .i64 b, .int .i64 c, .int .i64 d, .int .i64 e, .bool ok, .int .i64 cm, .int .i64 r, v, .int .i64 sa, .int .i64 st, v2, .string dt]
/-- Where the loop over entries stands. -/
def M1 (xs : List Int) (n x : Int) (t : St) (lo out : List S38) (bd : Bool) : Prop :=
  (t.2 = 150 ∧ (g6 xs).2.2 = t) ∨ (t.2 ≠ 150 ∧ out ++ (logsGo (n - x).toNat t).1 = (g6 xs).1 ∧ (bd || (logsGo (n - x).toNat t).2.1) = (g6 xs).2.1 ∧ (logsGo (n - x).toNat t).2.2 = (g6 xs).2.2 ∧ (bd = false → lo = out))
theorem M1.start {xs : List Int} {n : Int} {t : St} (h : logsGo n.toNat t = g6 xs) (h0 : t.2 = 150 → n = 0) : M1 xs n 0 t [] [] false := by
  by_cases c : t.2 = 150
  · refine .inl ⟨c, ?_⟩
    rw [← h, h0 c]
    rfl
  · exact .inr ⟨c, by rw [show n - 0 = n by omega, h]; rfl, by rw [show n - 0 = n by omega, h]; rfl, by rw [show n - 0 = n by omega, h], fun _ => rfl⟩
theorem M1.over {xs : List Int} {n x : Int} {t : St} {lo out : List S38} {bd : Bool} (h : M1 xs n x t lo out bd) (hx : t.2 = 150 ∨ n ≤ x) : t = (g6 xs).2.2 ∧ (t.2 ≠ 150 → bd = (g6 xs).2.1 ∧ (bd = false → lo = (g6 xs).1)) := by
  rcases h with ⟨h1, h2⟩ | ⟨h1, h2, h3, h4, h5⟩
  · exact ⟨h2.symm, fun h => absurd h1 h⟩
  · rcases hx with hx | hx
    · exact absurd hx h1
    · rw [show (n - x).toNat = 0 by omega] at h2 h3 h4
      simp only [logsGo, List.append_nil, Bool.or_false] at h2 h3 h4
      exact ⟨h4, fun _ => ⟨h3, fun hb => (h5 hb).trans h2⟩⟩
theorem M1.step {xs : List Int} {n x : Int} {t : St} {lo out : List S38} {bd : Bool} (h : M1 xs n x t lo out bd) (hx : x < n) (ht : t.2 ≠ 150) {l : Log} (hl : doneE (logR ((textR t).1, 0)).2 = 0 → (getLog (textR t).1).1 = l) :
    M1 xs n (x + 1) (textR t).2 (lo ++ [ofLog l]) (out ++ [ofLog (getLog (textR t).1).1]) (bd || (doneE (logR ((textR t).1, 0)).2 != 0)) := by
  rcases h with ⟨h1, h2⟩ | ⟨h1, h2, h3, h4, h5⟩
  · exact absurd h1 ht
  rw [show (n - x).toNat = (n - (x + 1)).toNat + 1 by omega, logsGo] at h2 h3 h4
  have e : (getLog (textR t).1).2 = doneE (logR ((textR t).1, 0)).2 := by
    unfold getLog
    split
    · rename_i h; exact h.symm
    · rfl
  by_cases c : (textR t).2.2 = 150
  · rw [if_pos c] at h4
    exact .inl ⟨c, h4.symm⟩
  · rw [if_neg c] at h2 h3 h4
    dsimp only at h2 h3 h4
    refine .inr ⟨c, by rw [List.append_assoc]; exact h2, ?_, h4, fun hb => ?_⟩
    · rw [← h3, Bool.or_assoc, e]
      have : (doneE (logR ((textR t).1, 0)).2 != 0) = decide (doneE (logR ((textR t).1, 0)).2 ≠ 0) := by by_cases q : doneE (logR ((textR t).1, 0)).2 = 0 <;> simp [q]
      rw [this]
    · rw [Bool.or_eq_false_iff] at hb
      rw [h5 hb.1, hl (by simpa using hb.2)]
/-- Where the loop over numbers stands. -/
def M2 (xs : List Int) (n x : Int) (t : St) (no : List Int) : Prop :=
  (t.2 = 150 ∧ (g9 xs).2 = t) ∨ (t.2 ≠ 150 ∧ no ++ (nodesGo (n - x).toNat t).1 = (g9 xs).1 ∧ (nodesGo (n - x).toNat t).2 = (g9 xs).2)
theorem M2.start {xs : List Int} {n : Int} {t : St} (h : nodesGo n.toNat t = g9 xs) (h0 : t.2 = 150 → n = 0) : M2 xs n 0 t [] := by
  by_cases c : t.2 = 150
  · refine .inl ⟨c, ?_⟩
    rw [← h, h0 c]
    rfl
  · exact .inr ⟨c, by rw [show n - 0 = n by omega, h]; rfl, by rw [show n - 0 = n by omega, h]⟩
theorem M2.over {xs : List Int} {n x : Int} {t : St} {no : List Int} (h : M2 xs n x t no) (hx : t.2 = 150 ∨ n ≤ x) : t = (g9 xs).2 ∧ (t.2 ≠ 150 → no = (g9 xs).1) := by
  rcases h with ⟨h1, h2⟩ | ⟨h1, h2, h4⟩
  · exact ⟨h2.symm, fun h => absurd h1 h⟩
  · rcases hx with hx | hx
    · exact absurd hx h1
    · rw [show (n - x).toNat = 0 by omega] at h2 h4
      simp only [nodesGo, List.append_nil] at h2 h4
      exact ⟨h4, fun _ => h2⟩
theorem M2.step {xs : List Int} {n x : Int} {t : St} {no : List Int} (h : M2 xs n x t no) (hx : x < n) (ht : t.2 ≠ 150) : M2 xs n (x + 1) (numR t).2 (no ++ [(numR t).1]) := by
  rcases h with ⟨h1, h2⟩ | ⟨h1, h2, h4⟩
  · exact absurd h1 ht
  rw [show (n - x).toNat = (n - (x + 1)).toNat + 1 by omega, nodesGo] at h2 h4
  by_cases c : (numR t).2.2 = 150
  · rw [if_pos c] at h4
    exact .inl ⟨c, h4.symm⟩
  · rw [if_neg c] at h2 h4
    exact .inr ⟨c, by rw [List.append_assoc]; exact h2, h4⟩
theorem cnt_short (s : St) (h : (cntR s).2.2 = 150) : (cntR s).1 = 0 := by
  show (if (counted s).2 = 150 then 0 else (raw s).1) = 0
  rw [if_pos (show (counted s).2 = 150 from h)]
set_option maxHeartbeats 4000000 in
set_option maxRecDepth 100000 in
theorem Parse_any (xs : List Int) (A : Option Addr) (c : Nat) (w : World) (hc : Kd.C (Kd.int .u8) w A xs.length xs) (hl : xs.length ≤ c) (hs : Bs xs) (hb : xs.length ≤ 50000) :
    Calls Try.prog 31 #[.slice A xs.length c] w (GetOut w (getRpc xs)) := by
  have HC := Aside0.mk hc
  have HLC := Aside0.mk hl
  have HS := Aside0.mk hs
  have HL := Aside0.mk hb
  have hm := hc.2.1
  have HP0 := Aside0.mk (show PS A c xs w (((w.alloc (.cells zeroC 66)).alloc (.cells #[.slice A xs.length c, .int .i64 0, .bool false] 113)).alloc (.cells zeroC 66)) (xs, 0) (cellsP 0 0 0 0 0 0 false 0 0 (.slice none 0 0) 0 0 (.slice none 0 0) ⟨#[]⟩) (fun k => w.heap.size + 1 + 1 < k) (fun k => w.heap.size + 1 + 1 < k) (.slice none 0 0) [] (.slice none 0 0) [] from
    ⟨⟨0, false, ⟨A, c, by simpa using zaf (zbt (w.alloc (.cells zeroC 66)) (.cells #[.slice A xs.length c, .int .i64 0, .bool false] 113)) (.cells zeroC 66), by omega, hc, rfl, rfl, hl⟩, by omega, by omega, rfl⟩,
      by simpa using zbt ((w.alloc (.cells zeroC 66)).alloc (.cells #[.slice A xs.length c, .int .i64 0, .bool false] 113)) (.cells zeroC 66),
      zaf (zaf (zbt w (.cells zeroC 66)) _) _, Kd.zdf _ _ _ _ _, Kd.zdf _ _ _ _ _, zad (zad (zad (Below.refl _ _) _) _) _, fun _ h => h, fun _ h => h⟩)
  have B1 := Aside0.mk (show Bs (g1 xs).2.1 from (zdl (xs, 0) 1 hs).2)
  have B2 := Aside0.mk (show Bs (g2 xs).2.1 from zdr 5 _ B1.out)
  have B3 := Aside0.mk (show Bs (g3 xs).2.1 from (zdl (g2 xs).2 1 B2.out).2)
  have B4 := Aside0.mk (show Bs (g4 xs).2.1 from zdr 2 _ B3.out)
  have L4 : Aside0 ((g4 xs).2.1.length ≤ xs.length) := ⟨by
    have h1 := zel (xs, 0) 1
    have h2 := zdu 5 (g1 xs).2
    have h3 := zel (g2 xs).2 1
    have h4 := zdu 2 (g3 xs).2
    simp only [g4, g3, g2, g1] at *
    omega⟩
  clear hc hl hs hb
  go_enter Try.func31, Try.ntmps31
  go_wp2_with fail
  refine (zex HP0.out.t (by have := HL.out; omega) HP0.out.b).mono ?_
  rintro e c1 ⟨rfl, ht, hb, hk⟩
  have HP1 := Aside0.mk (show PS A c xs w c1 (g1 xs).2 (cellsP (0) (0) (0) (0) (0) (0) (false) (0) (0) (.slice none 0 0) (0) (0) (.slice none 0 0) (⟨#[]⟩)) (fun k => w.heap.size + 1 + 1 < k) (fun k => w.heap.size + 1 + 1 < k) (.slice none 0 0) [] (.slice none 0 0) [] from HP0.out.call ht hb hk)
  clear ht hb hk HP0
  obtain ⟨k0, hv⟩ : ∃ q, rd (take (xs, 0) 1).1 0 = q := ⟨_, rfl⟩
  have Hk0 := Aside0.mk hv
  rw [hv]
  clear hv
  have hkb := u8le (take (xs, 0) 1).1 (zdl (xs, 0) 1 HS.out).1 0
  rw [Hk0.out] at hkb
  obtain ⟨hk1, hk2⟩ := hkb
  have x0 := (zaa HP1.out.c 0).trans rfl
  have fz0 := zab HP1.out.c 0
  go_wp2_with fail
  have HP2 := Aside0.mk (show PS A c xs w (c1.setCell ⟨w.heap.size + 1 + 1, 0, none⟩ (.int .i64 k0)) (g1 xs).2 (cellsP (k0) (0) (0) (0) (0) (0) (false) (0) (0) (.slice none 0 0) (0) (0) (.slice none 0 0) (⟨#[]⟩)) (fun k => w.heap.size + 1 + 1 < k) (fun k => w.heap.size + 1 + 1 < k) (.slice none 0 0) [] (.slice none 0 0) [] from HP1.out.put 0 (.int .i64 k0))
  obtain ⟨d2, hd⟩ : ∃ d, c1.setCell ⟨w.heap.size + 1 + 1, 0, none⟩ (.int .i64 k0) = d := ⟨_, rfl⟩
  rw [hd] at HP2 ⊢
  clear hd HP1
  clear x0 fz0
  refine (zfj HP2.out.t HS.out (by have := HL.out; omega) HP2.out.b).mono ?_
  rintro e c3 ⟨rfl, ht, hb, hk⟩
  have HP3 := Aside0.mk (show PS A c xs w c3 (numR (g1 xs).2).2 (cellsP (k0) (0) (0) (0) (0) (0) (false) (0) (0) (.slice none 0 0) (0) (0) (.slice none 0 0) (⟨#[]⟩)) (fun k => w.heap.size + 1 + 1 < k) (fun k => w.heap.size + 1 + 1 < k) (.slice none 0 0) [] (.slice none 0 0) [] from HP2.out.call ht hb hk)
  clear ht hb hk HP2
  obtain ⟨a1, hv⟩ : ∃ q, (numR (g1 xs).2).1 = q := ⟨_, rfl⟩
  have Ha1 := Aside0.mk hv
  rw [hv]
  clear hv
  have x1 := (zaa HP3.out.c 1).trans rfl
  have fz1 := zab HP3.out.c 1
  go_wp2_with fail
  have HP4 := Aside0.mk (show PS A c xs w (c3.setCell ⟨w.heap.size + 1 + 1, 1, none⟩ (.int .i64 a1)) (numR (g1 xs).2).2 (cellsP (k0) (a1) (0) (0) (0) (0) (false) (0) (0) (.slice none 0 0) (0) (0) (.slice none 0 0) (⟨#[]⟩)) (fun k => w.heap.size + 1 + 1 < k) (fun k => w.heap.size + 1 + 1 < k) (.slice none 0 0) [] (.slice none 0 0) [] from HP3.out.put 1 (.int .i64 a1))
  obtain ⟨d4, hd⟩ : ∃ d, c3.setCell ⟨w.heap.size + 1 + 1, 1, none⟩ (.int .i64 a1) = d := ⟨_, rfl⟩
  rw [hd] at HP4 ⊢
  clear hd HP3
  clear x1 fz1
  refine (zfj HP4.out.t HS.out (by have := HL.out; omega) HP4.out.b).mono ?_
  rintro e c5 ⟨rfl, ht, hb, hk⟩
  have HP5 := Aside0.mk (show PS A c xs w c5 (numR (numR (g1 xs).2).2).2 (cellsP (k0) (a1) (0) (0) (0) (0) (false) (0) (0) (.slice none 0 0) (0) (0) (.slice none 0 0) (⟨#[]⟩)) (fun k => w.heap.size + 1 + 1 < k) (fun k => w.heap.size + 1 + 1 < k) (.slice none 0 0) [] (.slice none 0 0) [] from HP4.out.call ht hb hk)
  clear ht hb hk HP4
  obtain ⟨a2, hv⟩ : ∃ q, (numR (numR (g1 xs).2).2).1 = q := ⟨_, rfl⟩
  have Ha2 := Aside0.mk hv
  rw [hv]
  clear hv
  have x2 := (zaa HP5.out.c 2).trans rfl
  have fz2 := zab HP5.out.c 2
  go_wp2_with fail
  have HP6 := Aside0.mk (show PS A c xs w (c5.setCell ⟨w.heap.size + 1 + 1, 2, none⟩ (.int .i64 a2)) (numR (numR (g1 xs).2).2).2 (cellsP (k0) (a1) (a2) (0) (0) (0) (false) (0) (0) (.slice none 0 0) (0) (0) (.slice none 0 0) (⟨#[]⟩)) (fun k => w.heap.size + 1 + 1 < k) (fun k => w.heap.size + 1 + 1 < k) (.slice none 0 0) [] (.slice none 0 0) [] from HP5.out.put 2 (.int .i64 a2))
  obtain ⟨d6, hd⟩ : ∃ d, c5.setCell ⟨w.heap.size + 1 + 1, 2, none⟩ (.int .i64 a2) = d := ⟨_, rfl⟩
  rw [hd] at HP6 ⊢
  clear hd HP5
  clear x2 fz2
  refine (zfj HP6.out.t HS.out (by have := HL.out; omega) HP6.out.b).mono ?_
  rintro e c7 ⟨rfl, ht, hb, hk⟩
  have HP7 := Aside0.mk (show PS A c xs w c7 (numR (numR (numR (g1 xs).2).2).2).2 (cellsP (k0) (a1) (a2) (0) (0) (0) (false) (0) (0) (.slice none 0 0) (0) (0) (.slice none 0 0) (⟨#[]⟩)) (fun k => w.heap.size + 1 + 1 < k) (fun k => w.heap.size + 1 + 1 < k) (.slice none 0 0) [] (.slice none 0 0) [] from HP6.out.call ht hb hk)
  clear ht hb hk HP6
  obtain ⟨a3, hv⟩ : ∃ q, (numR (numR (numR (g1 xs).2).2).2).1 = q := ⟨_, rfl⟩
  have Ha3 := Aside0.mk hv
  rw [hv]
  clear hv
  have x3 := (zaa HP7.out.c 3).trans rfl
  have fz3 := zab HP7.out.c 3
  go_wp2_with fail
  have HP8 := Aside0.mk (show PS A c xs w (c7.setCell ⟨w.heap.size + 1 + 1, 3, none⟩ (.int .i64 a3)) (numR (numR (numR (g1 xs).2).2).2).2 (cellsP (k0) (a1) (a2) (a3) (0) (0) (false) (0) (0) (.slice none 0 0) (0) (0) (.slice none 0 0) (⟨#[]⟩)) (fun k => w.heap.size + 1 + 1 < k) (fun k => w.heap.size + 1 + 1 < k) (.slice none 0 0) [] (.slice none 0 0) [] from HP7.out.put 3 (.int .i64 a3))
  obtain ⟨d8, hd⟩ : ∃ d, c7.setCell ⟨w.heap.size + 1 + 1, 3, none⟩ (.int .i64 a3) = d := ⟨_, rfl⟩
  rw [hd] at HP8 ⊢
  clear hd HP7
  clear x3 fz3
  refine (zfj HP8.out.t HS.out (by have := HL.out; omega) HP8.out.b).mono ?_
  rintro e c9 ⟨rfl, ht, hb, hk⟩
  have HP9 := Aside0.mk (show PS A c xs w c9 (numR (numR (numR (numR (g1 xs).2).2).2).2).2 (cellsP (k0) (a1) (a2) (a3) (0) (0) (false) (0) (0) (.slice none 0 0) (0) (0) (.slice none 0 0) (⟨#[]⟩)) (fun k => w.heap.size + 1 + 1 < k) (fun k => w.heap.size + 1 + 1 < k) (.slice none 0 0) [] (.slice none 0 0) [] from HP8.out.call ht hb hk)
  clear ht hb hk HP8
  obtain ⟨a4, hv⟩ : ∃ q, (numR (numR (numR (numR (g1 xs).2).2).2).2).1 = q := ⟨_, rfl⟩
  have Ha4 := Aside0.mk hv
  rw [hv]
  clear hv
  have x4 := (zaa HP9.out.c 4).trans rfl
  have fz4 := zab HP9.out.c 4
  go_wp2_with fail
  have HP10 := Aside0.mk (show PS A c xs w (c9.setCell ⟨w.heap.size + 1 + 1, 4, none⟩ (.int .i64 a4)) (numR (numR (numR (numR (g1 xs).2).2).2).2).2 (cellsP (k0) (a1) (a2) (a3) (a4) (0) (false) (0) (0) (.slice none 0 0) (0) (0) (.slice none 0 0) (⟨#[]⟩)) (fun k => w.heap.size + 1 + 1 < k) (fun k => w.heap.size + 1 + 1 < k) (.slice none 0 0) [] (.slice none 0 0) [] from HP9.out.put 4 (.int .i64 a4))
  obtain ⟨d10, hd⟩ : ∃ d, c9.setCell ⟨w.heap.size + 1 + 1, 4, none⟩ (.int .i64 a4) = d := ⟨_, rfl⟩
  rw [hd] at HP10 ⊢
  clear hd HP9
  clear x4 fz4
  refine (zfj HP10.out.t HS.out (by have := HL.out; omega) HP10.out.b).mono ?_
  rintro e c11 ⟨rfl, ht, hb, hk⟩
  have HP11 := Aside0.mk (show PS A c xs w c11 (g2 xs).2 (cellsP (k0) (a1) (a2) (a3) (a4) (0) (false) (0) (0) (.slice none 0 0) (0) (0) (.slice none 0 0) (⟨#[]⟩)) (fun k => w.heap.size + 1 + 1 < k) (fun k => w.heap.size + 1 + 1 < k) (.slice none 0 0) [] (.slice none 0 0) [] from HP10.out.call ht hb hk)
  clear ht hb hk HP10
  obtain ⟨a5, hv⟩ : ∃ q, (numR (numR (numR (numR (numR (g1 xs).2).2).2).2).2).1 = q := ⟨_, rfl⟩
  have Ha5 := Aside0.mk hv
  rw [hv]
  clear hv
  have x5 := (zaa HP11.out.c 5).trans rfl
  have fz5 := zab HP11.out.c 5
  go_wp2_with fail
  have HP12 := Aside0.mk (show PS A c xs w (c11.setCell ⟨w.heap.size + 1 + 1, 5, none⟩ (.int .i64 a5)) (g2 xs).2 (cellsP (k0) (a1) (a2) (a3) (a4) (a5) (false) (0) (0) (.slice none 0 0) (0) (0) (.slice none 0 0) (⟨#[]⟩)) (fun k => w.heap.size + 1 + 1 < k) (fun k => w.heap.size + 1 + 1 < k) (.slice none 0 0) [] (.slice none 0 0) [] from HP11.out.put 5 (.int .i64 a5))
  obtain ⟨d12, hd⟩ : ∃ d, c11.setCell ⟨w.heap.size + 1 + 1, 5, none⟩ (.int .i64 a5) = d := ⟨_, rfl⟩
  rw [hd] at HP12 ⊢
  clear hd HP11
  clear x5 fz5
  refine (zex HP12.out.t (by have := HL.out; omega) HP12.out.b).mono ?_
  rintro e c13 ⟨rfl, ht, hb, hk⟩
  have HP13 := Aside0.mk (show PS A c xs w c13 (g3 xs).2 (cellsP (k0) (a1) (a2) (a3) (a4) (a5) (false) (0) (0) (.slice none 0 0) (0) (0) (.slice none 0 0) (⟨#[]⟩)) (fun k => w.heap.size + 1 + 1 < k) (fun k => w.heap.size + 1 + 1 < k) (.slice none 0 0) [] (.slice none 0 0) [] from HP12.out.call ht hb hk)
  clear ht hb hk HP12
  obtain ⟨o0, hv⟩ : ∃ q, rd (take (g2 xs).2 1).1 0 = q := ⟨_, rfl⟩
  have Ho0 := Aside0.mk hv
  rw [hv]
  clear hv
  have hob := u8le (take (g2 xs).2 1).1 (zdl (g2 xs).2 1 B2.out).1 0
  rw [Ho0.out] at hob
  obtain ⟨ho1, ho2⟩ := hob
  have x6 := (zaa HP13.out.c 6).trans rfl
  have fz6 := zab HP13.out.c 6
  go_upto_region 13 with (fail)
  have HP14 := Aside0.mk (show PS A c xs w (c13.setCell ⟨w.heap.size + 1 + 1, 6, none⟩ (.bool (o0 == 1))) (g3 xs).2 (cellsP (k0) (a1) (a2) (a3) (a4) (a5) ((o0 == 1)) (0) (0) (.slice none 0 0) (0) (0) (.slice none 0 0) (⟨#[]⟩)) (fun k => w.heap.size + 1 + 1 < k) (fun k => w.heap.size + 1 + 1 < k) (.slice none 0 0) [] (.slice none 0 0) [] from HP13.out.put 6 (.bool (o0 == 1)))
  obtain ⟨d14, hd⟩ : ∃ d, c13.setCell ⟨w.heap.size + 1 + 1, 6, none⟩ (.bool (o0 == 1)) = d := ⟨_, rfl⟩
  rw [hd] at HP14 ⊢
  clear hd HP13
  clear x6 fz6
  obtain ⟨bad0, hbad⟩ : ∃ q, (decide (k0 < 1) || (decide (6 < k0) || decide (1 < o0))) = q := ⟨_, rfl⟩
  have HBAD := Aside0.mk hbad
  go_cut [6] (fun v6 wc => v6 = .bool bad0 ∧ wc = d14)
  case first =>
    by_cases q1 : k0 < 1
    · have d1 : decide (k0 < 1) = true := decide_eq_true q1
      go_wp2
      go_meet
      exact ⟨by rw [← HBAD.out]; simp [q1], rfl⟩
    · have d1 : decide (k0 < 1) = false := decide_eq_false q1
      by_cases q2 : 6 < k0
      · have d2 : decide (6 < k0) = true := decide_eq_true q2
        go_wp2
        go_meet
        exact ⟨by rw [← HBAD.out]; simp [q2], rfl⟩
      · have d2 : decide (6 < k0) = false := decide_eq_false q2
        by_cases q3 : 1 < o0
        · have d3 : decide (1 < o0) = true := decide_eq_true q3
          go_wp2
          go_meet
          exact ⟨by rw [← HBAD.out]; simp [q3], rfl⟩
        · have d3 : decide (1 < o0) = false := decide_eq_false q3
          go_wp2
          go_meet
          exact ⟨by rw [← HBAD.out]; simp [q1, q2, q3], rfl⟩
  case rest =>
    obtain ⟨rfl, hw⟩ := hcut
    subst hw
    clear hbad
    go_wp2_with fail
    refine (zfj HP14.out.t HS.out (by have := HL.out; omega) HP14.out.b).mono ?_
    rintro e c15 ⟨rfl, ht, hb, hk⟩
    have HP15 := Aside0.mk (show PS A c xs w c15 (numR (g3 xs).2).2 (cellsP (k0) (a1) (a2) (a3) (a4) (a5) ((o0 == 1)) (0) (0) (.slice none 0 0) (0) (0) (.slice none 0 0) (⟨#[]⟩)) (fun k => w.heap.size + 1 + 1 < k) (fun k => w.heap.size + 1 + 1 < k) (.slice none 0 0) [] (.slice none 0 0) [] from HP14.out.call ht hb hk)
    clear ht hb hk HP14
    obtain ⟨cm, hv⟩ : ∃ q, (numR (g3 xs).2).1 = q := ⟨_, rfl⟩
    have Hcm := Aside0.mk hv
    rw [hv]
    clear hv
    have x7 := (zaa HP15.out.c 7).trans rfl
    have fz7 := zab HP15.out.c 7
    go_wp2_with fail
    have HP16 := Aside0.mk (show PS A c xs w (c15.setCell ⟨w.heap.size + 1 + 1, 7, none⟩ (.int .i64 cm)) (numR (g3 xs).2).2 (cellsP (k0) (a1) (a2) (a3) (a4) (a5) ((o0 == 1)) (cm) (0) (.slice none 0 0) (0) (0) (.slice none 0 0) (⟨#[]⟩)) (fun k => w.heap.size + 1 + 1 < k) (fun k => w.heap.size + 1 + 1 < k) (.slice none 0 0) [] (.slice none 0 0) [] from HP15.out.put 7 (.int .i64 cm))
    obtain ⟨d16, hd⟩ : ∃ d, c15.setCell ⟨w.heap.size + 1 + 1, 7, none⟩ (.int .i64 cm) = d := ⟨_, rfl⟩
    rw [hd] at HP16 ⊢
    clear hd HP15
    clear x7 fz7
    refine (zfj HP16.out.t HS.out (by have := HL.out; omega) HP16.out.b).mono ?_
    rintro e c17 ⟨rfl, ht, hb, hk⟩
    have HP17 := Aside0.mk (show PS A c xs w c17 (g4 xs).2 (cellsP (k0) (a1) (a2) (a3) (a4) (a5) ((o0 == 1)) (cm) (0) (.slice none 0 0) (0) (0) (.slice none 0 0) (⟨#[]⟩)) (fun k => w.heap.size + 1 + 1 < k) (fun k => w.heap.size + 1 + 1 < k) (.slice none 0 0) [] (.slice none 0 0) [] from HP16.out.call ht hb hk)
    clear ht hb hk HP16
    obtain ⟨rr, hv⟩ : ∃ q, (numR (numR (g3 xs).2).2).1 = q := ⟨_, rfl⟩
    have Hrr := Aside0.mk hv
    rw [hv]
    clear hv
    have x8 := (zaa HP17.out.c 8).trans rfl
    have fz8 := zab HP17.out.c 8
    go_wp2_with fail
    have HP18 := Aside0.mk (show PS A c xs w (c17.setCell ⟨w.heap.size + 1 + 1, 8, none⟩ (.int .i64 rr)) (g4 xs).2 (cellsP (k0) (a1) (a2) (a3) (a4) (a5) ((o0 == 1)) (cm) (rr) (.slice none 0 0) (0) (0) (.slice none 0 0) (⟨#[]⟩)) (fun k => w.heap.size + 1 + 1 < k) (fun k => w.heap.size + 1 + 1 < k) (.slice none 0 0) [] (.slice none 0 0) [] from HP17.out.put 8 (.int .i64 rr))
    obtain ⟨d18, hd⟩ : ∃ d, c17.setCell ⟨w.heap.size + 1 + 1, 8, none⟩ (.int .i64 rr) = d := ⟨_, rfl⟩
    rw [hd] at HP18 ⊢
    clear hd HP17
    clear x8 fz8
    refine (zge HP18.out.t HS.out (by have := HL.out; omega) HP18.out.b).mono ?_
    rintro e c19 ⟨rfl, ht, hb, hk⟩
    have HP19 := Aside0.mk (show PS A c xs w c19 (g5 xs).2 (cellsP (k0) (a1) (a2) (a3) (a4) (a5) ((o0 == 1)) (cm) (rr) (.slice none 0 0) (0) (0) (.slice none 0 0) (⟨#[]⟩)) (fun k => w.heap.size + 1 + 1 < k) (fun k => w.heap.size + 1 + 1 < k) (.slice none 0 0) [] (.slice none 0 0) [] from HP18.out.call ht hb hk)
    clear ht hb hk HP18
    obtain ⟨n, hv⟩ : ∃ q, (cntR (g4 xs).2).1 = q := ⟨_, rfl⟩
    have Hn := Aside0.mk hv
    rw [hv]
    clear hv
    have HN : Aside0 (0 ≤ n ∧ n ≤ 50000) := ⟨by
      have h := zgy (g4 xs).2 B4.out
      have h2 := L4.out
      have h3 := HL.out
      rw [Hn.out] at h
      omega⟩
    have BL5 : Aside0 (Bs (g5 xs).2.1 ∧ (g5 xs).2.1.length ≤ xs.length) := ⟨zhm _ B4.out, Nat.le_trans (zhl _) L4.out⟩
    have HG6 : Aside0 (logsGo n.toNat (g5 xs).2 = g6 xs) := ⟨by rw [← Hn.out]; rfl⟩
    go_upto_block 0 with (fail)
    go_cut [6] (fun v6 wc => ∃ (t : St) (lo : List S38) (bd : Bool) (v : Value), v6 = .bool (bad0 || bd) ∧ Aside0 (PS A c xs w wc t (cellsP (k0) (a1) (a2) (a3) (a4) (a5) ((o0 == 1)) (cm) (rr) (v) (0) (0) (.slice none 0 0) (⟨#[]⟩)) (fun k => w.heap.size + 1 + 1 < k) (fun k => w.heap.size + 1 + 1 < k) v lo (.slice none 0 0) []) ∧ Aside0 (t = (g6 xs).2.2 ∧ (t.2 ≠ 150 → bd = (g6 xs).2.1 ∧ (bd = false → lo = (g6 xs).1))))
    case first =>
      go_wp2_with fail
      go_loopw [10, 6] (fun i v6 wr => ∃ (x : Int) (t : St) (lo out : List S38) (bd : Bool) (v : Value), i = .int .i64 x ∧ v6 = .bool (bad0 || bd) ∧ Aside0 (0 ≤ x ∧ x ≤ n) ∧ Aside0 (M1 xs n x t lo out bd) ∧ Aside0 (PS A c xs w wr t (cellsP (k0) (a1) (a2) (a3) (a4) (a5) ((o0 == 1)) (cm) (rr) (v) (0) (0) (.slice none 0 0) (⟨#[]⟩)) (fun k => w.heap.size + 1 + 1 < k) (fun k => w.heap.size + 1 + 1 < k) v lo (.slice none 0 0) []) ∧ Aside0 ((lo.length : Int) = x) ∧ Aside0 (Bs t.1 ∧ t.1.length ≤ xs.length)) (fun i _ _ => (n - intOf i).toNat)
      case atStart => exact ⟨0, (g5 xs).2, [], [], false, .slice none 0 0, rfl, by rw [Bool.or_false], ⟨by have := HN.out; omega⟩, ⟨M1.start HG6.out (fun h => by rw [← Hn.out]; exact cnt_short _ h)⟩, HP19, ⟨rfl⟩, BL5⟩
      case round =>
        obtain ⟨x, t, lo, out, bd, v, rfl, rfl, HX, HM, HP, HLO, HBL⟩ := hrel
        obtain ⟨hx0, hx1⟩ := HX.out
        obtain ⟨At, kt, at_, hcell, -, -, -⟩ := HP.out.t.cells
        have q2 := (zaa hcell 2).trans rfl
        clear hcell
        by_cases c1 : x < n
        · have e1 : decide (x < n) = true := decide_eq_true c1
          by_cases ct : t.2 = 150
          · have e2 : decide (t.2 = 150) = true := decide_eq_true ct
            rw [e2] at q2
            have HCT := Aside0.mk ct
            clear ct e2
            go_wp2_with fail
            go_meet
            exact ⟨t, lo, bd, v, rfl, HP, ⟨HM.out.over (.inl HCT.out)⟩⟩
          · have e2 : decide (t.2 = 150) = false := decide_eq_false ct
            rw [e2] at q2
            have HCT := Aside0.mk ct
            clear ct e2
            go_wp2_with fail
            clear q2
            have HTB := Aside0.mk (zgj t HBL.out.1)
            have HTL := Aside0.mk (zha t)
            have HTR := Aside0.mk (zgi t)
            refine (zea HP.out.t HS.out (by have := HL.out; omega) HP.out.b).mono ?_
            rintro e w1 ⟨⟨A1, k1, rfl, hc1, hl1⟩, ht, hb, hk⟩
            have HP1 := Aside0.mk (HP.out.call ht hb hk)
            have HC1 := Aside0.mk (Kd.zci hc1 hb)
            have HL1 := Aside0.mk hl1
            have HKS := Aside0.mk hk.1
            clear ht hb hk hc1 hl1
            obtain ⟨ys, hys⟩ : ∃ ys, (textR t).1 = ys := ⟨_, rfl⟩
            have HYS := Aside0.mk hys
            rw [hys] at HTB HTL HC1 HL1
            rw [hys]
            clear hys
            have hll : ys.length ≤ 50000 := by have := HTL.out; have := HBL.out.2; have := HL.out; omega
            have hm1 : ys.length ≤ maxLen := by unfold maxLen; omega
            obtain ⟨a', s', f', hf, la, ra, hst⟩ := log_s HTB.out.1 (by omega) ys.length (Nat.le_refl _) 0 false false (by omega) (by omega)
            rw [st_start] at hf hst
            obtain ⟨lg, hlg⟩ : ∃ lg, logR (ys, 0) = lg := ⟨_, rfl⟩
            have HLG := Aside0.mk hlg
            rw [hlg] at hf hst
            have hend := end_s ys a' s' f' la ra
            rw [hst] at hend
            have HF := Aside0.mk hf
            have HEND := Aside0.mk hend
            clear hf hend hst hlg
            go_wp2_with fail
            refine (XCodecGets.zaw.calls _ (As0 := A1) (cs0 := k1) w1.heap.size ys 0 false false _ _ _ _ _ _ _ _ _ _ _ _ _ _ _ _ _ w1 _ ⟨A1, k1, zbt w1 _, Nat.le_refl _, HC1.out, rfl, rfl, HL1.out⟩ (zad (Below.refl _ _) _) HF.out).mono ?_
            rintro e w3 ⟨v8, v9, rfl, ho8, ho9, hi3, hb3, hk3⟩
            obtain ⟨A8, k8, rfl, hl8, -⟩ := Kd.zft ho8
            obtain ⟨A9, k9, rfl, hl9, -⟩ := Kd.zft ho9
            have HO8 := Aside0.mk ho8
            have HO9 := Aside0.mk ho9
            have HI3 := Aside0.mk hi3
            have HB3 := Aside0.mk hb3
            have HL8 := Aside0.mk hl8
            have HL9 := Aside0.mk hl9
            clear ho8 ho9 hi3 hb3 hk3 hl8 hl9
            obtain ⟨bb, hbb⟩ : ∃ bb, (bad0 || bd) = bb := ⟨_, rfl⟩
            have HBB := Aside0.mk hbb
            rw [hbb]
            clear hbb
            go_upto_region 22 with ((with_reducible refine zbw (t := 38) (p := 12) rfl ?_); go_must (refine Ca.zbq (g := w3.heap.size) (e := 38) (old := zLog) (cs := logC lg.1 A8 k8 A9 k9) rfl rfl 38 (.tmp 12) (.tmp 78) rfl rfl rfl ?hb rfl info38 ?h1 ?_); go_must (case hb => exact zbt w3 _); go_must (case h1 => exact fun q hq => List.all_eq_true.1 (show (logC lg.1 A8 k8 A9 k9).toList.all (fun q => q.oneCell') = true from rfl) q hq); intro w4 hb4 hg4; have HX4 := Aside0.mk hb4; have HB4 := Aside0.mk (zdz hg4); clear hb4 hg4)
            have HI4 := Aside0.mk (HI3.out.below HB4.out)
            have HB14 := Aside0.mk (bthen HB3.out HB4.out)
            have HO84 := Aside0.mk (Kd.zcq HO8.out HB4.out)
            have HO94 := Aside0.mk (Kd.zcq HO9.out HB4.out)
            have H13 := Aside0.mk HB3.out.size
            have HG1 := Aside0.mk HI3.out.lt
            go_cut [6] (fun v6 wc => v6 = .bool (bb || (doneE lg.2 != 0)) ∧ Aside0 (Below w1.heap.size w1 wc) ∧ Aside0 (wc.heap[w3.heap.size]? = some (.cells (logC lg.1 A8 k8 A9 k9) 38 (0, 0))) ∧ Aside0 (Kd.R Kd.string 9 wc w.heap.size (fun k => w1.heap.size < k) (.slice A8 lg.1.cmd.names.length k8) lg.1.cmd.names) ∧ Aside0 (Kd.R (Kd.int .i64) 3 wc w.heap.size (fun k => w1.heap.size < k) (.slice A9 lg.1.nodes.length k9) lg.1.nodes))
            case first =>
              have hbase : w.heap.size ≤ w1.heap.size := HP1.out.b.size
              have HR8 := Aside0.mk (Kd.zdn (Kd.zbh (Kd.zek HO84.out) (ok' := fun k => w1.heap.size < k) (fun k hk => by have := hk.2.1; simp at this; omega)) (show w.heap.size ≤ _ by simp; omega))
              have HR9 := Aside0.mk (Kd.zdn (Kd.zbh (Kd.zek HO94.out) (ok' := fun k => w1.heap.size < k) (fun k hk => by have := hk.2.1; simp at this; omega)) (show w.heap.size ≤ _ by simp; omega))
              clear hbase
              cases bb
              · go_wp2_with fail
                refine (XCodecGets.zcy.calls (As0 := A1) (cs0 := k1) w1.heap.size ys a' s' f' _ _ _ _ w1 w4 HI4.out HB14.out HEND.out).mono ?_
                rintro e w5 ⟨rfl, -, hb5, hk5⟩
                have HB5 := Aside0.mk hb5
                have HK5 := Aside0.mk hk5
                clear hb5 hk5
                go_wp2_with fail
                go_meet
                exact ⟨by simp, HB5, ⟨HK5.out.blk HX4.out (by have := HG1.out; omega) (by simp)⟩, ⟨Kd.zdg HR8.out HK5.out (fun k hk => by omega)⟩, ⟨Kd.zdg HR9.out HK5.out (fun k hk => by omega)⟩⟩
              · go_wp2_with fail
                go_meet
                exact ⟨by simp, HB14, HX4, HR8, HR9⟩
            case rest =>
              obtain ⟨rfl, HBW, HXW, HRN, HRI⟩ := hcut
              have HP5 := Aside0.mk (HP1.out.below HBW.out)
              have HVL := Aside0.mk (Kd.R_lt HP1.out.l)
              have HLT := Aside0.mk (zdp HXW.out)
              have y9 := (zaa HP5.out.c 9).trans rfl
              have hxw := HXW.out
              have u0 := (zaa hxw 0).trans rfl
              have u1 := (zaa hxw 1).trans rfl
              have u2 := (zaa hxw 2).trans rfl
              have u3 := (zaa hxw 3).trans rfl
              have u4 := (zaa hxw 4).trans rfl
              have u5 := (zaa hxw 5).trans rfl
              have u6 := (zaa hxw 6).trans rfl
              have u7 := (zaa hxw 7).trans rfl
              have u8 := (zaa hxw 8).trans rfl
              have u9 := (zaa hxw 9).trans rfl
              have u10 := (zaa hxw 10).trans rfl
              have u11 := (zaa hxw 11).trans rfl
              have u12 := (zaa hxw 12).trans rfl
              have u13 := (zaa hxw 13).trans rfl
              clear hxw
              have hwx : wrap64 (x + 1) = x + 1 := by have := HN.out; unfold wrap64; omega
              clear HI3 HI4 HO8 HO9 HO84 HO94 HB3 HB4 HB14 HX4 HC1 HL1 HF HEND
              go_wp2_with ((with_reducible refine zcd (b := .append) (xs := #[.tmp 86, .tmp 88]) rfl ?_); at_builtin; go_must (refine Kd.zdd k38 (w0 := w) w.heap.size rfl (.tmp 86) (.tmp 88) 62 38 (.agg zLog) 192 rfl Try.underlying62 info38b rfl (by decide) (by decide) v lo (ofLog lg.1) (logC lg.1 A8 k8 A9 k9).toList (fun k => w.heap.size + 1 + 1 < k) (fun k => w1.heap.size < k) rfl rfl ?aP ?aK ?aF ?aO ?aB ?aS ?aL ?_); go_must (case aP => exact k38_mkM _ w.heap.size _ (ofLog lg.1) HRN.out HRI.out); (case aK => intro k hk; refine ⟨by have := HP1.out.lt; omega, fun he => ?_⟩; have := HVL.out k he.symm; omega); (case aF => intro k hk; have := HP1.out.lt; have := HLT.out; have := HBW.out.size; omega); (case aO => exact HP5.out.l); (case aB => exact HP5.out.b); (case aS => exact zaz HP5.out.b); (case aL => have := HLO.out; have := HN.out; omega); intro v11 w11 ho11 hb11 hg11 hat11; obtain ⟨A11, m11, q11, e11⟩ := zcp ho11; subst e11; have HO11 := Aside0.mk ho11; have HB11 := Aside0.mk hb11; have HG11 := Aside0.mk hg11; have hcc11 := zbm HP5.out.c hg11 (Kd.R_ne HP5.out.l HP5.out.c (by decide)); have HCC11 := Aside0.mk hcc11; have x9 := (zaa hcc11 9).trans rfl; have fz11 := zab hcc11 9; have HZ11 := Aside0.mk (zbm HP5.out.z hg11 (Kd.R_ne HP5.out.l HP5.out.z (by decide))); have HT11 := Aside0.mk (HP5.out.t.grown hg11 (HP5.out.t.neR HP5.out.l (by decide))); clear ho11 hb11 hg11 hat11 hcc11)
              go_roundw
              case rel =>
                refine ⟨x + 1, (textR t).2, lo ++ [ofLog lg.1], out ++ [ofLog (getLog (textR t).1).1], bd || (doneE (logR ((textR t).1, 0)).2 != 0), .slice A11 m11 q11, congrArg (Value.int .i64) hwx, by rw [HYS.out, HLG.out, ← HBB.out, Bool.or_assoc], ⟨by omega⟩, ⟨HM.out.step (by omega) HCT.out (l := lg.1) ?_⟩, ⟨?_⟩, ⟨by have := HLO.out; simp; omega⟩, ⟨?_⟩⟩
                · intro h
                  rw [HYS.out] at h ⊢
                  unfold getLog
                  rw [if_pos h, HLG.out]
                · have HPN : PS A c xs w w11 (textR t).2 (cellsP (k0) (a1) (a2) (a3) (a4) (a5) ((o0 == 1)) (cm) (rr) (v) (0) (0) (.slice none 0 0) (⟨#[]⟩)) (fun k => w.heap.size + 1 + 1 < k) (fun k => w.heap.size + 1 + 1 < k) _ (lo ++ [ofLog lg.1]) (.slice none 0 0) [] := ⟨HT11.out, HCC11.out, HZ11.out, HO11.out, Kd.zdf _ _ _ _ _, HB11.out, fun _ h => h, fun _ h => h⟩
                  exact HPN.put 9 _
                · rw [← HYS.out] at HTB
                  exact ⟨HTB.out.2, Nat.le_trans HTR.out HBL.out.2⟩
              case measure => simp [intOf]; omega
        · have e1 : decide (x < n) = false := decide_eq_false c1
          go_wp2_with fail
          go_meet
          exact ⟨t, lo, bd, v, rfl, HP, ⟨HM.out.over (.inr (by omega))⟩⟩
    case rest =>
      obtain ⟨t6, lo, bd, v, rfl, HP6, HM6⟩ := hcut
      have h6 := HM6.out.1
      subst h6
      obtain ⟨bb, hbb⟩ : ∃ bb, (bad0 || bd) = bb := ⟨_, rfl⟩
      have HBB := Aside0.mk hbb
      rw [hbb]
      clear hbb
      have B6 := Aside0.mk (show Bs (g6 xs).2.2.1 from zid _ _ BL5.out.1)
      have L6 := Aside0.mk (show (g6 xs).2.2.1.length ≤ xs.length from Nat.le_trans (logsGo_le _ _) BL5.out.2)
      have B7 := Aside0.mk (show Bs (g7 xs).2.1 from zdr 2 _ B6.out)
      have L7 := Aside0.mk (show (g7 xs).2.1.length ≤ xs.length from Nat.le_trans (zdu 2 _) L6.out)
      have BL8 := Aside0.mk (show Bs (g8 xs).2.1 ∧ (g8 xs).2.1.length ≤ xs.length from ⟨zhm _ B7.out, Nat.le_trans (zhl _) L7.out⟩)
      go_wp2_with fail
      refine (zfj HP6.out.t HS.out (by have := HL.out; omega) HP6.out.b).mono ?_
      rintro e c20 ⟨rfl, ht, hb, hk⟩
      have HP20 := Aside0.mk (show PS A c xs w c20 (numR (g6 xs).2.2).2 (cellsP (k0) (a1) (a2) (a3) (a4) (a5) ((o0 == 1)) (cm) (rr) (v) (0) (0) (.slice none 0 0) (⟨#[]⟩)) (fun k => w.heap.size + 1 + 1 < k) (fun k => w.heap.size + 1 + 1 < k) v lo (.slice none 0 0) [] from HP6.out.call ht hb hk)
      clear ht hb hk HP6
      obtain ⟨sa, hv⟩ : ∃ q, (numR (g6 xs).2.2).1 = q := ⟨_, rfl⟩
      have Hsa := Aside0.mk hv
      rw [hv]
      clear hv
      have x10 := (zaa HP20.out.c 10).trans rfl
      have fz10 := zab HP20.out.c 10
      go_wp2_with fail
      have HP21 := Aside0.mk (show PS A c xs w (c20.setCell ⟨w.heap.size + 1 + 1, 10, none⟩ (.int .i64 sa)) (numR (g6 xs).2.2).2 (cellsP (k0) (a1) (a2) (a3) (a4) (a5) ((o0 == 1)) (cm) (rr) (v) (sa) (0) (.slice none 0 0) (⟨#[]⟩)) (fun k => w.heap.size + 1 + 1 < k) (fun k => w.heap.size + 1 + 1 < k) v lo (.slice none 0 0) [] from HP20.out.put 10 (.int .i64 sa))
      obtain ⟨d21, hd⟩ : ∃ d, c20.setCell ⟨w.heap.size + 1 + 1, 10, none⟩ (.int .i64 sa) = d := ⟨_, rfl⟩
      rw [hd] at HP21 ⊢
      clear hd HP20
      clear x10 fz10
      refine (zfj HP21.out.t HS.out (by have := HL.out; omega) HP21.out.b).mono ?_
      rintro e c22 ⟨rfl, ht, hb, hk⟩
      have HP22 := Aside0.mk (show PS A c xs w c22 (g7 xs).2 (cellsP (k0) (a1) (a2) (a3) (a4) (a5) ((o0 == 1)) (cm) (rr) (v) (sa) (0) (.slice none 0 0) (⟨#[]⟩)) (fun k => w.heap.size + 1 + 1 < k) (fun k => w.heap.size + 1 + 1 < k) v lo (.slice none 0 0) [] from HP21.out.call ht hb hk)
      clear ht hb hk HP21
      obtain ⟨stt, hv⟩ : ∃ q, (numR (numR (g6 xs).2.2).2).1 = q := ⟨_, rfl⟩
      have Hstt := Aside0.mk hv
      rw [hv]
      clear hv
      have x11 := (zaa HP22.out.c 11).trans rfl
      have fz11 := zab HP22.out.c 11
      go_wp2_with fail
      have HP23 := Aside0.mk (show PS A c xs w (c22.setCell ⟨w.heap.size + 1 + 1, 11, none⟩ (.int .i64 stt)) (g7 xs).2 (cellsP (k0) (a1) (a2) (a3) (a4) (a5) ((o0 == 1)) (cm) (rr) (v) (sa) (stt) (.slice none 0 0) (⟨#[]⟩)) (fun k => w.heap.size + 1 + 1 < k) (fun k => w.heap.size + 1 + 1 < k) v lo (.slice none 0 0) [] from HP22.out.put 11 (.int .i64 stt))
      obtain ⟨d23, hd⟩ : ∃ d, c22.setCell ⟨w.heap.size + 1 + 1, 11, none⟩ (.int .i64 stt) = d := ⟨_, rfl⟩
      rw [hd] at HP23 ⊢
      clear hd HP22
      clear x11 fz11
      refine (zge HP23.out.t HS.out (by have := HL.out; omega) HP23.out.b).mono ?_
      rintro e c24 ⟨rfl, ht, hb, hk⟩
      have HP24 := Aside0.mk (show PS A c xs w c24 (g8 xs).2 (cellsP (k0) (a1) (a2) (a3) (a4) (a5) ((o0 == 1)) (cm) (rr) (v) (sa) (stt) (.slice none 0 0) (⟨#[]⟩)) (fun k => w.heap.size + 1 + 1 < k) (fun k => w.heap.size + 1 + 1 < k) v lo (.slice none 0 0) [] from HP23.out.call ht hb hk)
      clear ht hb hk HP23
      obtain ⟨n2, hv⟩ : ∃ q, (cntR (g7 xs).2).1 = q := ⟨_, rfl⟩
      have Hn2 := Aside0.mk hv
      rw [hv]
      clear hv
      have HN2 : Aside0 (0 ≤ n2 ∧ n2 ≤ 50000) := ⟨by
        have h := zgy (g7 xs).2 B7.out
        have h2 := L7.out
        have h3 := HL.out
        rw [Hn2.out] at h
        omega⟩
      have HG9 : Aside0 (nodesGo n2.toNat (g8 xs).2 = g9 xs) := ⟨by rw [← Hn2.out]; rfl⟩
      have HLTB := Aside0.mk HP24.out.lt
      have HPB := Aside0.mk (show PS A c xs w c24 (g8 xs).2 (cellsP (k0) (a1) (a2) (a3) (a4) (a5) ((o0 == 1)) (cm) (rr) (v) (sa) (stt) ((.slice none 0 0)) (⟨#[]⟩)) (fun k => w.heap.size + 1 + 1 < k ∧ k < c24.heap.size) (fun k => c24.heap.size ≤ k) v lo (.slice none 0 0) [] from ⟨HP24.out.t, HP24.out.c, HP24.out.z, Kd.zbh (Kd.zek HP24.out.l) (fun k hk => ⟨hk.1, hk.2.2.1⟩), Kd.zdf _ _ _ _ _, HP24.out.b, fun k hk => hk.1, fun k hk => by have := HLTB.out; omega⟩)
      clear HP24
      go_upto_block 2 with (fail)
      go_cut [] (fun wc => ∃ (t : St) (no : List Int) (v2 : Value), Aside0 (PS A c xs w wc t (cellsP (k0) (a1) (a2) (a3) (a4) (a5) ((o0 == 1)) (cm) (rr) (v) (sa) (stt) (v2) (⟨#[]⟩)) (fun k => w.heap.size + 1 + 1 < k ∧ k < c24.heap.size) (fun k => c24.heap.size ≤ k) v lo v2 no) ∧ Aside0 (t = (g9 xs).2 ∧ (t.2 ≠ 150 → no = (g9 xs).1)))
      case first =>
        go_wp2_with fail
        go_loopw [13] (fun i wr => ∃ (x : Int) (t : St) (no : List Int) (v2 : Value), i = .int .i64 x ∧ Aside0 (0 ≤ x ∧ x ≤ n2) ∧ Aside0 (M2 xs n2 x t no) ∧ Aside0 (PS A c xs w wr t (cellsP (k0) (a1) (a2) (a3) (a4) (a5) ((o0 == 1)) (cm) (rr) (v) (sa) (stt) (v2) (⟨#[]⟩)) (fun k => w.heap.size + 1 + 1 < k ∧ k < c24.heap.size) (fun k => c24.heap.size ≤ k) v lo v2 no) ∧ Aside0 ((no.length : Int) = x) ∧ Aside0 (Bs t.1 ∧ t.1.length ≤ xs.length) ∧ Aside0 (c24.heap.size ≤ wr.heap.size)) (fun i _ => (n2 - intOf i).toNat)
        case atStart => exact ⟨0, (g8 xs).2, [], .slice none 0 0, rfl, ⟨by have := HN2.out; omega⟩, ⟨M2.start HG9.out (fun h => by rw [← Hn2.out]; exact cnt_short _ h)⟩, HPB, ⟨rfl⟩, BL8, ⟨Nat.le_refl _⟩⟩
        case round =>
          obtain ⟨x, t, no, v2, rfl, HX, HM, HPR, HLO, HBL, HSZ⟩ := hrel
          obtain ⟨hx0, hx1⟩ := HX.out
          obtain ⟨At, kt, at_, hcell, -, -, -⟩ := HPR.out.t.cells
          have q2 := (zaa hcell 2).trans rfl
          clear hcell
          by_cases c1 : x < n2
          · have e1 : decide (x < n2) = true := decide_eq_true c1
            by_cases ct : t.2 = 150
            · have e2 : decide (t.2 = 150) = true := decide_eq_true ct
              rw [e2] at q2
              have HCT := Aside0.mk ct
              clear ct e2
              go_wp2_with fail
              go_meet
              exact ⟨t, no, v2, HPR, ⟨HM.out.over (.inl HCT.out)⟩⟩
            · have e2 : decide (t.2 = 150) = false := decide_eq_false ct
              rw [e2] at q2
              have HCT := Aside0.mk ct
              clear ct e2
              go_wp2_with fail
              clear q2
              refine (zfj HPR.out.t HS.out (by have := HL.out; omega) HPR.out.b).mono ?_
              rintro e w1 ⟨rfl, ht, hb, hk⟩
              have HP1 := Aside0.mk (HPR.out.call ht hb hk)
              have HKS := Aside0.mk hk.1
              clear ht hb hk
              have y12 := (zaa HP1.out.c 12).trans rfl
              have hwx : wrap64 (x + 1) = x + 1 := by have := HN2.out; unfold wrap64; omega
              go_wp2_with ((with_reducible refine zcd (b := .append) (xs := #[.tmp 117, .tmp 119]) rfl ?_); at_builtin; go_must (refine Kd.zdd (Kd.int .i64) (w0 := w) w.heap.size rfl (.tmp 117) (.tmp 119) 36 3 (.int .i64 0) 8 rfl Try.underlying36 info3 rfl (by decide) (by decide) v2 no (numR t).1 [.int .i64 (numR t).1] (fun k => c24.heap.size ≤ k) (fun _ => False) rfl rfl ?aP (fun _ hk => hk.elim) ?aF ?aO ?aB ?aS ?aL ?_); go_must (case aP => exact rfl); (case aF => intro k hk; have := HSZ.out; have := HKS.out; omega); (case aO => exact HP1.out.n); (case aB => exact HP1.out.b); (case aS => exact zaz HP1.out.b); (case aL => have := HLO.out; have := HN2.out; omega); intro v11 w11 ho11 hb11 hg11 hat11; obtain ⟨A11, m11, q11, e11⟩ := zcp ho11; subst e11; have HO11 := Aside0.mk ho11; have HB11 := Aside0.mk hb11; have HG11 := Aside0.mk hg11; have hcc11 := zbm HP1.out.c hg11 (Kd.R_ne HP1.out.n HP1.out.c (by decide)); have HCC11 := Aside0.mk hcc11; have x12 := (zaa hcc11 12).trans rfl; have fz11 := zab hcc11 12; have HZ11 := Aside0.mk (zbm HP1.out.z hg11 (Kd.R_ne HP1.out.n HP1.out.z (by decide))); have HT11 := Aside0.mk (HP1.out.t.grown hg11 (HP1.out.t.neR HP1.out.n (by decide))); have HL11 := Aside0.mk (Kd.zeo HP1.out.l hg11 (fun k hk he => by have := HP1.out.n.1 k he.symm; omega)); clear ho11 hb11 hg11 hat11 hcc11)
              go_roundw
              case rel =>
                refine ⟨x + 1, (numR t).2, no ++ [(numR t).1], .slice A11 m11 q11, congrArg (Value.int .i64) hwx, ⟨by omega⟩, ⟨HM.out.step (by omega) HCT.out⟩, ⟨?_⟩, ⟨by have := HLO.out; simp; omega⟩, ⟨zcw t HBL.out.1, Nat.le_trans (zfe t) HBL.out.2⟩, ⟨by have := HSZ.out; have := HKS.out; have := HG11.out.size; simp; omega⟩⟩
                have HPN : PS A c xs w w11 (numR t).2 (cellsP (k0) (a1) (a2) (a3) (a4) (a5) ((o0 == 1)) (cm) (rr) (v) (sa) (stt) (v2) (⟨#[]⟩)) (fun k => w.heap.size + 1 + 1 < k ∧ k < c24.heap.size) (fun k => c24.heap.size ≤ k) v lo _ (no ++ [(numR t).1]) := ⟨HT11.out, HCC11.out, HZ11.out, HL11.out, HO11.out, HB11.out, HP1.out.f1, HP1.out.f2⟩
                exact HPN.put 12 _
              case measure => simp [intOf]; omega
          · have e1 : decide (x < n2) = false := decide_eq_false c1
            go_wp2_with fail
            go_meet
            exact ⟨t, no, v2, HPR, ⟨HM.out.over (.inr (by omega))⟩⟩
      case rest =>
        obtain ⟨t9, no, v2, HP9, HM9⟩ := hcut
        have h9 := HM9.out.1
        subst h9
        have B9 := Aside0.mk (show Bs (g9 xs).2.1 from zgm _ _ BL8.out.1)
        obtain ⟨A6, c6, hv6⟩ := Kd.zbu HP9.out.l
        subst hv6
        obtain ⟨A9, c9, hv9⟩ := Kd.zbu HP9.out.n
        subst hv9
        go_wp2_with fail
        refine (zea HP9.out.t HS.out (by have := HL.out; omega) HP9.out.b).mono ?_
        rintro e w1 ⟨⟨A1, k1, rfl, hc1, hl1⟩, ht, hb, hk⟩
        have HP10 := Aside0.mk (HP9.out.call ht hb hk)
        have cv := Kd.zgq (P := Try.prog) (src := 27) (dst := 9) (c := k1) Try.underlying27 Try.underlying5 Try.underlying9 (Kd.zci hc1 hb)
        have x13 := (zaa HP10.out.c 13).trans rfl
        have fz13 := zab HP10.out.c 13
        clear ht hb hk hc1 hl1
        go_upto_block 4 with (fail)
        clear cv x13 fz13
        have HP11 := Aside0.mk (show PS A c xs w (w1.setCell ⟨w.heap.size + 1 + 1, 13, none⟩ (.string (strOfNums (textR (g9 xs).2).1))) (g10 xs).2 (cellsP k0 a1 a2 a3 a4 a5 (o0 == 1) cm rr (.slice A6 lo.length c6) sa stt (.slice A9 no.length c9) (strOfNums (textR (g9 xs).2).1)) (fun k => w.heap.size + 1 + 1 < k ∧ k < c24.heap.size) (fun k => c24.heap.size ≤ k) (.slice A6 lo.length c6) lo (.slice A9 no.length c9) no from HP10.out.put 13 (.string (strOfNums (textR (g9 xs).2).1)))
        obtain ⟨w2, hw2⟩ : ∃ w2, w1.setCell ⟨w.heap.size + 1 + 1, 13, none⟩ (.string (strOfNums (textR (g9 xs).2).1)) = w2 := ⟨_, rfl⟩
        rw [hw2] at HP11 ⊢
        clear hw2 HP10 HP9
        obtain ⟨At, kt, at_, hcell, hlen, hat0, hat1⟩ := HP11.out.t.cells
        have p0 := (zaa hcell 0).trans rfl
        have p1 := (zaa hcell 1).trans rfl
        have p2 := (zaa hcell 2).trans rfl
        clear hcell
        by_cases ct : (g10 xs).2.2 = 150
        · have hsh : decide ((g10 xs).2.2 = 150) = true := decide_eq_true ct
          have HG := Aside0.mk (show getRpc xs = (zeroRpc, 150) by simp [getRpc, gErr, ct])
          rw [hsh] at p2
          clear ct
          go_wp2_with ((with_reducible refine zbw (t := 66) (p := 2) rfl ?_); go_must (refine Ca.zbq (g := w.heap.size) (e := 66) (old := zeroC) (cs := zeroC) rfl rfl 66 (.tmp 2) (.tmp 133) rfl rfl rfl ?hb rfl info66 ?h1 ?_); go_must (case hb => exact HP11.out.z); go_must (case h1 => exact fun q hq => List.all_eq_true.1 (show (zeroC).toList.all (fun q => q.oneCell') = true from rfl) q hq); intro w33 hb33 hg33; have HB33 := Aside0.mk hb33; have HG33 := Aside0.mk hg33; clear hb33 hg33)
          all_goals
            have z0 := (zaa HB33.out 0).trans rfl
            have z1 := (zaa HB33.out 1).trans rfl
            have z2 := (zaa HB33.out 2).trans rfl
            have z3 := (zaa HB33.out 3).trans rfl
            have z4 := (zaa HB33.out 4).trans rfl
            have z5 := (zaa HB33.out 5).trans rfl
            have z6 := (zaa HB33.out 6).trans rfl
            have z7 := (zaa HB33.out 7).trans rfl
            have z8 := (zaa HB33.out 8).trans rfl
            have z9 := (zaa HB33.out 9).trans rfl
            have z10 := (zaa HB33.out 10).trans rfl
            have z11 := (zaa HB33.out 11).trans rfl
            have z12 := (zaa HB33.out 12).trans rfl
            have z13 := (zaa HB33.out 13).trans rfl
            refine bodyPost_ret (v := .tuple #[rpcV zeroRpc none 0 none 0, .int .i64 150]) (by simp [results, Try.results31, go_sem, z0, z1, z2, z3, z4, z5, z6, z7, z8, z9, z10, z11, z12, z13, zeroRpc]) rfl ?_
            exact GetOut.bad HG.out (HP11.out.b.grown HG33.out HP11.out.b.size (fun k hk => by injection hk with hk; omega))
        · have hsh : decide ((g10 xs).2.2 = 150) = false := decide_eq_false ct
          have HCT := Aside0.mk ct
          rw [hsh] at p2
          clear ct
          by_cases cl : at_ < xs.length
          · have HG := Aside0.mk (show getRpc xs = (zeroRpc, 151) by simp only [getRpc, gErr, if_neg HCT.out, if_pos (show 0 < (g10 xs).2.1.length by omega)]; rfl)
            have d1 : decide (at_ < (xs.length : Int)) = true := decide_eq_true cl
            clear cl
            go_wp2_with ((with_reducible refine zbw (t := 66) (p := 2) rfl ?_); go_must (refine Ca.zbq (g := w.heap.size) (e := 66) (old := zeroC) (cs := zeroC) rfl rfl 66 (.tmp 2) (.tmp 142) rfl rfl rfl ?hb rfl info66 ?h1 ?_); go_must (case hb => exact HP11.out.z); go_must (case h1 => exact fun q hq => List.all_eq_true.1 (show (zeroC).toList.all (fun q => q.oneCell') = true from rfl) q hq); intro w33 hb33 hg33; have HB33 := Aside0.mk hb33; have HG33 := Aside0.mk hg33; clear hb33 hg33)
            all_goals
              have z0 := (zaa HB33.out 0).trans rfl
              have z1 := (zaa HB33.out 1).trans rfl
              have z2 := (zaa HB33.out 2).trans rfl
              have z3 := (zaa HB33.out 3).trans rfl
              have z4 := (zaa HB33.out 4).trans rfl
              have z5 := (zaa HB33.out 5).trans rfl
              have z6 := (zaa HB33.out 6).trans rfl
              have z7 := (zaa HB33.out 7).trans rfl
              have z8 := (zaa HB33.out 8).trans rfl
              have z9 := (zaa HB33.out 9).trans rfl
              have z10 := (zaa HB33.out 10).trans rfl
              have z11 := (zaa HB33.out 11).trans rfl
              have z12 := (zaa HB33.out 12).trans rfl
              have z13 := (zaa HB33.out 13).trans rfl
              refine bodyPost_ret (v := .tuple #[rpcV zeroRpc none 0 none 0, .int .i64 151]) (by simp [results, Try.results31, go_sem, z0, z1, z2, z3, z4, z5, z6, z7, z8, z9, z10, z11, z12, z13, zeroRpc]) rfl ?_
              exact GetOut.bad HG.out (HP11.out.b.grown HG33.out HP11.out.b.size (fun k hk => by injection hk with hk; omega))
          · have d1 : decide (at_ < (xs.length : Int)) = false := decide_eq_false cl
            have HCL := Aside0.mk (show ¬ 0 < (g10 xs).2.1.length by omega)
            clear cl
            have h9 : (g9 xs).2.2 ≠ 150 := fun e => HCT.out (zfy _ e)
            have h6 : (g6 xs).2.2.2 ≠ 150 := fun e => h9 (zgx _ _ (zhd _ (zfc 2 _ e)))
            obtain ⟨q6, r6⟩ := HM6.out.2 h6
            have r9 := HM9.out.2 h9
            have hcond : ((g6 xs).2.1 = true ∨ 1 < rd (g3 xs).1 0 ∨ rd (g1 xs).1 0 < 1 ∨ 6 < rd (g1 xs).1 0) ↔ bb = true := by
              rw [← HBB.out, ← HBAD.out, q6, show rd (g3 xs).1 0 = o0 from Ho0.out, show rd (g1 xs).1 0 = k0 from Hk0.out]
              simp only [Bool.or_eq_true, decide_eq_true_eq]
              constructor
              · rintro (h | h | h | h)
                · exact .inr h
                · exact .inl (.inr (.inr h))
                · exact .inl (.inl h)
                · exact .inl (.inr (.inl h))
              · rintro ((h | h | h) | h)
                · exact .inr (.inr (.inl h))
                · exact .inr (.inr (.inr h))
                · exact .inr (.inl h)
                · exact .inl h
            cases hbb : bb
            · have HG := Aside0.mk (show getRpc xs = (gRpc xs, 0) by
                have he : gErr xs = 0 := by
                  unfold gErr
                  rw [if_neg HCT.out, if_neg HCL.out, if_neg (fun h => by rw [hcond.1 h] at hbb; cases hbb)]
                rw [getRpc, if_pos he])
              have HLO6 := Aside0.mk (r6 (by have := HBB.out; rw [hbb, Bool.or_eq_false_iff] at this; exact this.2))
              have HNO9 := Aside0.mk r9
              clear h9 h6 q6 r6 r9 hcond
              have y0 := (zaa HP11.out.c 0).trans rfl
              have y1 := (zaa HP11.out.c 1).trans rfl
              have y2 := (zaa HP11.out.c 2).trans rfl
              have y3 := (zaa HP11.out.c 3).trans rfl
              have y4 := (zaa HP11.out.c 4).trans rfl
              have y5 := (zaa HP11.out.c 5).trans rfl
              have y6 := (zaa HP11.out.c 6).trans rfl
              have y7 := (zaa HP11.out.c 7).trans rfl
              have y8 := (zaa HP11.out.c 8).trans rfl
              have y9 := (zaa HP11.out.c 9).trans rfl
              have y10 := (zaa HP11.out.c 10).trans rfl
              have y11 := (zaa HP11.out.c 11).trans rfl
              have y12 := (zaa HP11.out.c 12).trans rfl
              have y13 := (zaa HP11.out.c 13).trans rfl
              go_wp2_with ((with_reducible refine zbw (t := 66) (p := 2) rfl ?_); go_must (refine Ca.zbq (g := w.heap.size) (e := 66) (old := zeroC) (cs := cellsP k0 a1 a2 a3 a4 a5 (o0 == 1) cm rr (.slice A6 lo.length c6) sa stt (.slice A9 no.length c9) (strOfNums (textR (g9 xs).2).1)) rfl rfl 66 (.tmp 2) (.tmp 146) rfl rfl rfl ?hb rfl info66 ?h1 ?_); go_must (case hb => exact HP11.out.z); go_must (case h1 => exact fun q hq => List.all_eq_true.1 (show (cellsP k0 a1 a2 a3 a4 a5 (o0 == 1) cm rr (.slice A6 lo.length c6) sa stt (.slice A9 no.length c9) (strOfNums (textR (g9 xs).2).1)).toList.all (fun q => q.oneCell') = true from rfl) q hq); intro w33 hb33 hg33; have HB33 := Aside0.mk hb33; have HG33 := Aside0.mk hg33; clear hb33 hg33)
              have z0 := (zaa HB33.out 0).trans rfl
              have z1 := (zaa HB33.out 1).trans rfl
              have z2 := (zaa HB33.out 2).trans rfl
              have z3 := (zaa HB33.out 3).trans rfl
              have z4 := (zaa HB33.out 4).trans rfl
              have z5 := (zaa HB33.out 5).trans rfl
              have z6 := (zaa HB33.out 6).trans rfl
              have z7 := (zaa HB33.out 7).trans rfl
              have z8 := (zaa HB33.out 8).trans rfl
              have z9 := (zaa HB33.out 9).trans rfl
              have z10 := (zaa HB33.out 10).trans rfl
              have z11 := (zaa HB33.out 11).trans rfl
              have z12 := (zaa HB33.out 12).trans rfl
              have z13 := (zaa HB33.out 13).trans rfl
              have hres : gRpc xs = ⟨k0, a1, a2, a3, a4, a5, (o0 == 1), cm, rr, lo, sa, stt, no, strOfNums (textR (g9 xs).2).1⟩ := by
                rw [gRpc, show rd (g1 xs).1 0 = k0 from Hk0.out, show rd (g2 xs).1 0 = a1 from Ha1.out, show rd (g2 xs).1 1 = a2 from Ha2.out, show rd (g2 xs).1 2 = a3 from Ha3.out, show rd (g2 xs).1 3 = a4 from Ha4.out, show rd (g2 xs).1 4 = a5 from Ha5.out, show rd (g3 xs).1 0 = o0 from Ho0.out, show rd (g4 xs).1 0 = cm from Hcm.out, show rd (g4 xs).1 1 = rr from Hrr.out, show rd (g7 xs).1 0 = sa from Hsa.out, show rd (g7 xs).1 1 = stt from Hstt.out, HLO6.out, HNO9.out]
                rfl
              refine bodyPost_ret (v := .tuple #[rpcV ⟨k0, a1, a2, a3, a4, a5, (o0 == 1), cm, rr, lo, sa, stt, no, strOfNums (textR (g9 xs).2).1⟩ A6 c6 A9 c9, .int .i64 0]) (by simp [results, Try.results31, go_sem, z0, z1, z2, z3, z4, z5, z6, z7, z8, z9, z10, z11, z12, z13]) rfl ?_
              rw [HG.out, hres]
              exact ⟨A6, c6, A9, c9, rfl, Kd.zbh (Kd.zeo HP11.out.l HG33.out (fun k hk he => by injection he with he; have := HP11.out.f1 k hk; omega)) (fun _ _ => trivial), Kd.zbh (Kd.zeo HP11.out.n HG33.out (fun k hk he => by injection he with he; have := HP11.out.f2 k hk; omega)) (fun _ _ => trivial), HP11.out.b.grown HG33.out HP11.out.b.size (fun k hk => by injection hk with hk; omega)⟩
            · have HG := Aside0.mk (show getRpc xs = (zeroRpc, 31) by simp only [getRpc, gErr, if_neg HCT.out, if_neg HCL.out, if_pos (hcond.2 hbb)]; rfl)
              clear h9 h6 q6 r6 r9 hcond
              go_wp2_with ((with_reducible refine zbw (t := 66) (p := 2) rfl ?_); go_must (refine Ca.zbq (g := w.heap.size) (e := 66) (old := zeroC) (cs := zeroC) rfl rfl 66 (.tmp 2) (.tmp 145) rfl rfl rfl ?hb rfl info66 ?h1 ?_); go_must (case hb => exact HP11.out.z); go_must (case h1 => exact fun q hq => List.all_eq_true.1 (show (zeroC).toList.all (fun q => q.oneCell') = true from rfl) q hq); intro w33 hb33 hg33; have HB33 := Aside0.mk hb33; have HG33 := Aside0.mk hg33; clear hb33 hg33)
              all_goals
                have z0 := (zaa HB33.out 0).trans rfl
                have z1 := (zaa HB33.out 1).trans rfl
                have z2 := (zaa HB33.out 2).trans rfl
                have z3 := (zaa HB33.out 3).trans rfl
                have z4 := (zaa HB33.out 4).trans rfl
                have z5 := (zaa HB33.out 5).trans rfl
                have z6 := (zaa HB33.out 6).trans rfl
                have z7 := (zaa HB33.out 7).trans rfl
                have z8 := (zaa HB33.out 8).trans rfl
                have z9 := (zaa HB33.out 9).trans rfl
                have z10 := (zaa HB33.out 10).trans rfl
                have z11 := (zaa HB33.out 11).trans rfl
                have z12 := (zaa HB33.out 12).trans rfl
                have z13 := (zaa HB33.out 13).trans rfl
                refine bodyPost_ret (v := .tuple #[rpcV zeroRpc none 0 none 0, .int .i64 31]) (by simp [results, Try.results31, go_sem, z0, z1, z2, z3, z4, z5, z6, z7, z8, z9, z10, z11, z12, z13, zeroRpc]) rfl ?_
                exact GetOut.bad HG.out (HP11.out.b.grown HG33.out HP11.out.b.size (fun k hk => by injection hk with hk; omega))
end Go.Proofs.Ytjhcbggpbfejgaa.Pp
