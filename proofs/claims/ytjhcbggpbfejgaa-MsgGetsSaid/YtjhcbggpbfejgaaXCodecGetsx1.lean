-- written by wip/xprint.py: the kit's print with functions walked by hand
import Derived.Test.YtjhcbggpbfejgaaXCodecGetsx0
namespace Go.Proofs.Ytjhcbggpbfejgaa.XCodecGets
open Go.RowKit Go.Proofs.zjt.zjq Go.Proofs.zjt.zjr Go.Proofs.zjt.zjs
attribute [local go_sem] zes zeq zfi zfh zdy zdx zer zep   -- for this text's walks alone
set_option linter.unusedVariables false
set_option linter.unusedSimpArgs false
/-- A state of type 50 at block g of W; what its slices lead to came in by w0. -/
def IsS50 (As0 : Option Addr) (cs0 : Nat) (w0 W : World) (g : Nat) (f0 : List Int) (f1 : Int) (f2 : Bool) (f3 : Bool) : Prop := ∃ A0 c0, W.heap[g]? = some (.cells #[.slice A0 f0.length c0, .int .i64 f1, .bool f2, .bool f3] 50 (0, 0)) ∧ w0.heap.size ≤ g ∧ (Kd.C (Kd.int .u8) w0 A0 f0.length f0 ∧ A0 = As0 ∧ c0 = cs0 ∧ f0.length ≤ c0)
theorem IsS50.grown {w0 W : World} {g : Nat} {As0 : Option Addr} {cs0 : Nat} {f0 : List Int} {f1 : Int} {f2 : Bool} {f3 : Bool} {W1 : World} {row : Option Nat} (h : IsS50 As0 cs0 w0 W g f0 f1 f2 f3) (hw : W.grownBy W1 row) (hne : some g ≠ row) : IsS50 As0 cs0 w0 W1 g f0 f1 f2 f3 := by
 obtain ⟨A0, c0, hb, hg, hr0⟩ := h
 exact ⟨A0, c0, zbm hb hw hne, hg, hr0⟩
theorem IsS50.kept {w0 W : World} {g : Nat} {As0 : Option Addr} {cs0 : Nat} {f0 : List Int} {f1 : Int} {f2 : Bool} {f3 : Bool} {W1 : World} {S : Nat → Prop} (h : IsS50 As0 cs0 w0 W g f0 f1 f2 f3) (hk : Kept W W1 S) (hne : ¬ S g) : IsS50 As0 cs0 w0 W1 g f0 f1 f2 f3 := by
 obtain ⟨A0, c0, hb, hg, hr0⟩ := h
 exact ⟨A0, c0, zbr hb hk hne, hg, hr0⟩
theorem IsS50.below {w0 W : World} {g : Nat} {As0 : Option Addr} {cs0 : Nat} {f0 : List Int} {f1 : Int} {f2 : Bool} {f3 : Bool} {W1 : World} (h : IsS50 As0 cs0 w0 W g f0 f1 f2 f3) (hw : Below W.heap.size W W1) : IsS50 As0 cs0 w0 W1 g f0 f1 f2 f3 := h.grown (zfk hw none) (by simp)
theorem IsS50.alloc {w0 W : World} {g : Nat} {As0 : Option Addr} {cs0 : Nat} {f0 : List Int} {f1 : Int} {f2 : Bool} {f3 : Bool} (h : IsS50 As0 cs0 w0 W g f0 f1 f2 f3) (o : Obj) : IsS50 As0 cs0 w0 (W.alloc o) g f0 f1 f2 f3 := h.below (zad (Below.refl _ _) o)
theorem IsS50.drewN {w0 W : World} {g : Nat} {As0 : Option Addr} {cs0 : Nat} {f0 : List Int} {f1 : Int} {f2 : Bool} {f3 : Bool} (h : IsS50 As0 cs0 w0 W g f0 f1 f2 f3) (m : Nat) : IsS50 As0 cs0 w0 (W.drewN m) g f0 f1 f2 f3 := h
theorem IsS50.drew {w0 W : World} {g : Nat} {As0 : Option Addr} {cs0 : Nat} {f0 : List Int} {f1 : Int} {f2 : Bool} {f3 : Bool} (h : IsS50 As0 cs0 w0 W g f0 f1 f2 f3) : IsS50 As0 cs0 w0 W.drew g f0 f1 f2 f3 := h
theorem IsS50.at_ {w0 W : World} {g : Nat} {As0 : Option Addr} {cs0 : Nat} {f0 : List Int} {f1 : Int} {f2 : Bool} {f3 : Bool} {w' : World} {m : Nat} (hq : W.drewN m = w') (h : IsS50 As0 cs0 w0 W g f0 f1 f2 f3) : IsS50 As0 cs0 w0 w' g f0 f1 f2 f3 := by subst hq; exact IsS50.drewN h m
theorem IsS50.apart {w0 W : World} {g : Nat} {As0 : Option Addr} {cs0 : Nat} {f0 : List Int} {f1 : Int} {f2 : Bool} {f3 : Bool} {α : Type} {d : Kd α} {e : Nat} {base : Nat} {ok : Nat → Prop} {v : Value} {xs : List α} (h : IsS50 As0 cs0 w0 W g f0 f1 f2 f3) (ho : d.R e W base ok v xs) (ht : ∀ q, q ∈ e :: d.E → q ≠ 50) : d.R e W base (fun k => ok k ∧ k ≠ g) v xs := by
 obtain ⟨A0, c0, hb, hg, hr0⟩ := h
 exact Kd.zco ho hb ht
theorem IsS50.own_ne {w0 W : World} {g : Nat} {As0 : Option Addr} {cs0 : Nat} {f0 : List Int} {f1 : Int} {f2 : Bool} {f3 : Bool} {α : Type} {d : Kd α} {e : Nat} {base : Nat} {ok : Nat → Prop} {v : Value} {xs : List α} (h : IsS50 As0 cs0 w0 W g f0 f1 f2 f3) (ho : d.R e W base ok v xs) (ht : e ≠ 50) : some g ≠ v.ownBlock := by
 obtain ⟨A0, c0, hb, hg, hr0⟩ := h
 exact Kd.R_ne ho hb ht
theorem IsS50.lt {w0 W : World} {g : Nat} {As0 : Option Addr} {cs0 : Nat} {f0 : List Int} {f1 : Int} {f2 : Bool} {f3 : Bool} (h : IsS50 As0 cs0 w0 W g f0 f1 f2 f3) : g < W.heap.size := by
 obtain ⟨A0, c0, hb, hg, hr0⟩ := h
 exact zdp hb
theorem IsS50.ge {w0 W : World} {g : Nat} {As0 : Option Addr} {cs0 : Nat} {f0 : List Int} {f1 : Int} {f2 : Bool} {f3 : Bool} (h : IsS50 As0 cs0 w0 W g f0 f1 f2 f3) : w0.heap.size ≤ g := by
 obtain ⟨A0, c0, hb, hg, hr0⟩ := h
 exact hg
theorem IsS50.far {w0 W : World} {g : Nat} {As0 : Option Addr} {cs0 : Nat} {f0 : List Int} {f1 : Int} {f2 : Bool} {f3 : Bool} {p : Addr} (h : IsS50 As0 cs0 w0 W g f0 f1 f2 f3) (hne : g ≠ p.block) (u : Value) : IsS50 As0 cs0 w0 (W.setCell p u) g f0 f1 f2 f3 := by
 obtain ⟨A0, c0, hb, hg, hr0⟩ := h
 exact ⟨A0, c0, zbi hb hne u, hg, hr0⟩
theorem zcb {W : World} {g : Nat} {A0 : Option Addr} {c0 : Nat} {f0 : List Int} {f1 : Int} {f2 : Bool} {f3 : Bool} (h : W.heap[g]? = some (.cells #[.slice A0 f0.length c0, .int .i64 f1, .bool f2, .bool f3] 50 (0, 0))) : W.cell? ⟨g, 0, none⟩ = some (.slice A0 f0.length c0) := (zaa h 0).trans rfl
theorem zca {W : World} {g : Nat} {A0 : Option Addr} {c0 : Nat} {f0 : List Int} {f1 : Int} {f2 : Bool} {f3 : Bool} (h : W.heap[g]? = some (.cells #[.slice A0 f0.length c0, .int .i64 f1, .bool f2, .bool f3] 50 (0, 0))) : W.cell? ⟨g, 1, none⟩ = some (.int .i64 f1) := (zaa h 1).trans rfl
theorem IsS50.zbx {w0 W : World} {g : Nat} {As0 : Option Addr} {cs0 : Nat} {f0 : List Int} {f1 : Int} {f2 : Bool} {f3 : Bool} (h : IsS50 As0 cs0 w0 W g f0 f1 f2 f3) (x : Int) : IsS50 As0 cs0 w0 (W.setCell ⟨g, 1, none⟩ (.int .i64 x)) g f0 x f2 f3 := by
 obtain ⟨A0, c0, hb, hg, hr0⟩ := h
 exact ⟨A0, c0, by simpa using zdb hb 1 (.int .i64 x), hg, hr0⟩
theorem zcf {W : World} {g : Nat} {A0 : Option Addr} {c0 : Nat} {f0 : List Int} {f1 : Int} {f2 : Bool} {f3 : Bool} (h : W.heap[g]? = some (.cells #[.slice A0 f0.length c0, .int .i64 f1, .bool f2, .bool f3] 50 (0, 0))) : W.cell? ⟨g, 2, none⟩ = some (.bool f2) := (zaa h 2).trans rfl
theorem IsS50.zbv {w0 W : World} {g : Nat} {As0 : Option Addr} {cs0 : Nat} {f0 : List Int} {f1 : Int} {f2 : Bool} {f3 : Bool} (h : IsS50 As0 cs0 w0 W g f0 f1 f2 f3) (x : Bool) : IsS50 As0 cs0 w0 (W.setCell ⟨g, 2, none⟩ (.bool x)) g f0 f1 x f3 := by
 obtain ⟨A0, c0, hb, hg, hr0⟩ := h
 exact ⟨A0, c0, by simpa using zdb hb 2 (.bool x), hg, hr0⟩
theorem zce {W : World} {g : Nat} {A0 : Option Addr} {c0 : Nat} {f0 : List Int} {f1 : Int} {f2 : Bool} {f3 : Bool} (h : W.heap[g]? = some (.cells #[.slice A0 f0.length c0, .int .i64 f1, .bool f2, .bool f3] 50 (0, 0))) : W.cell? ⟨g, 3, none⟩ = some (.bool f3) := (zaa h 3).trans rfl
theorem IsS50.zch {w0 W : World} {g : Nat} {As0 : Option Addr} {cs0 : Nat} {f0 : List Int} {f1 : Int} {f2 : Bool} {f3 : Bool} (h : IsS50 As0 cs0 w0 W g f0 f1 f2 f3) (x : Bool) : IsS50 As0 cs0 w0 (W.setCell ⟨g, 3, none⟩ (.bool x)) g f0 f1 f2 x := by
 obtain ⟨A0, c0, hb, hg, hr0⟩ := h
 exact ⟨A0, c0, by simpa using zdb hb 3 (.bool x), hg, hr0⟩
mutual
def zaj.j0 : Nat → Bool → List Int → Int → Bool → Bool → Option (Int × Int × Bool × Bool)
 | 0, _, _, _, _, _ => none
 | k + 1, x21, x1000, x1001, x1002, x1003 => if x21 = true then (some (0, x1001, true, x1003)) else (zaj.l0 k 0 0 x1000 x1001 x1002 x1003)
def zaj.l0 : Nat → Int → Int → List Int → Int → Bool → Bool → Option (Int × Int × Bool × Bool)
 | 0, _, _, _, _, _, _ => none
 | k + 1, x3, x4, x1000, x1001, x1002, x1003 => if x4 < 8 then (if 0 ≤ (wrap64 (x1001 + x4)) then (if (wrap64 (x1001 + x4)) < (x1000.length : Int) then (zaj.l0 k (IntKind.u64.wrap ((IntKind.u64.wrap (256 * x3)) + (IntKind.u64.wrap (rd x1000 (wrap64 (x1001 + x4)))))) (wrap64 (x4 + 1)) x1000 x1001 x1002 x1003) else (none)) else (none)) else (some (x3, wrap64 (x1001 + 8), x1002, x1003))
end
def zaj.f (k : Nat) (s0_0 : List Int) (s0_1 : Int) (s0_2 : Bool) (s0_3 : Bool) : Option (Int × Int × Bool × Bool) := if s0_2 = true then (zaj.j0 k true s0_0 s0_1 s0_2 s0_3) else (zaj.j0 k (decide ((wrap64 ((s0_0.length : Int) - s0_1)) < 8)) s0_0 s0_1 s0_2 s0_3)
set_option maxHeartbeats 8000000 in
set_option maxRecDepth 100000 in
theorem zaj.calls (k : Nat) {As0 : Option Addr} {cs0 : Nat} (g : Nat) (s0_0 : List Int) (s0_1 : Int) (s0_2 : Bool) (s0_3 : Bool) (r1 : Int) (r2 : Int) (r3 : Bool) (r4 : Bool) (w0 w : World) (hI : IsS50 As0 cs0 w0 w g s0_0 s0_1 s0_2 s0_3) (hB : Below w0.heap.size w0 w) (h : zaj.f k s0_0 s0_1 s0_2 s0_3 = some (r1, r2, r3, r4)) :
  Calls Try.prog 44 #[.pointer (some ⟨g, 0, none⟩)] w fun e w' => e = .returned (.int .u64 r1) ∧ IsS50 As0 cs0 w0 w' g s0_0 r2 r3 r4 ∧ Below w0.heap.size w0 w' ∧ KeepBut w w' g none := by
 have HI0 := Aside0.mk hI
 have HK := Aside0.mk (KeepBut.refl w g none)
 have HL := Aside0.mk hB.size
 clear hI
 have HW0 := Aside0.mk hB.size
 have HB := Aside0.mk hB
 clear hB
 have H : (if s0_2 = true then (zaj.j0 k true s0_0 s0_1 s0_2 s0_3) else (zaj.j0 k (decide ((wrap64 ((s0_0.length : Int) - s0_1)) < 8)) s0_0 s0_1 s0_2 s0_3)) = some (r1, r2, r3, r4) := h
 clear h
 have HC2 := Aside0.mk H
 clear H
 go_enter Try.func44, Try.ntmps44
 go_upto_region 1 with (fail)
 repeat (go_quiet (fail); go_upto_region 1 with (fail))
 go_cut [21] (fun v21 wc => ∃ (kq : Nat) (x21_1 : Bool), v21 = .bool x21_1 ∧ Aside0 (zaj.j0 kq x21_1 s0_0 s0_1 s0_2 s0_3 = some (r1, r2, r3, r4)) ∧ Aside0 (kq ≤ k) ∧ Aside0 (IsS50 As0 cs0 w0 wc g s0_0 s0_1 s0_2 s0_3) ∧ Aside0 (KeepBut w wc g none) ∧ Aside0 (Below w0.heap.size w0 wc))
 case first =>
  have H := HC2.out
  clear HC2
  by_cases c3 : s0_2 = true
  ·subst c3
   have H1 : (zaj.j0 k true s0_0 s0_1 true s0_3) = some (r1, r2, r3, r4) := by rw [if_pos rfl] at H; exact H
   clear H
   have H := H1
   clear H1
   have H' := Aside0.mk H
   clear H
   obtain ⟨ASz4_0, cSz4_0, HGz4, hgz4, ⟨HSz4_0, -, -, -⟩⟩ := HI0.out
   have hcz4_0 := zcb HGz4
   have hcz4_1 := zca HGz4
   have hcz4_2 := zcf HGz4
   have hcz4_3 := zce HGz4
   have hfz4_1 := zab HGz4 1
   have hfz4_2 := zab HGz4 2
   have hfz4_3 := zab HGz4 3
   clear HGz4 hgz4
   go_wp2
   repeat (go_quiet (fail); try go_wp2)
   go_meet
   case rel => exact ⟨_, (true), (by first | rfl | (simp; done) | (simp [*]; done)), H', ⟨by first | omega | exact Nat.le_refl _⟩, ⟨by repeat (first | (with_reducible first | exact HI0.out | apply IsS50.alloc | apply IsS50.drewN | apply IsS50.drew | apply IsS50.zbx | apply IsS50.zbv | apply IsS50.zch) | exact HI0.out)⟩, ⟨by repeat (first | (with_reducible first | exact HK.out | apply KeepBut.set_ | apply zas | apply zav | apply zar) | exact HK.out)⟩, ⟨by repeat (first | (with_reducible first | exact HB.out | apply zad | apply zac | apply zae | refine zah ?_ (IsS50.ge HI0.out)) | exact HB.out)⟩⟩
  ·replace c3 := Bool.eq_false_iff.mpr c3
   subst c3
   have H1 : (zaj.j0 k (decide ((wrap64 ((s0_0.length : Int) - s0_1)) < 8)) s0_0 s0_1 false s0_3) = some (r1, r2, r3, r4) := by rw [if_neg (show ¬ (false = true) by decide)] at H; exact H
   clear H
   have H := H1
   clear H1
   have H' := Aside0.mk H
   clear H
   obtain ⟨ASz5_0, cSz5_0, HGz5, hgz5, ⟨HSz5_0, -, -, -⟩⟩ := HI0.out
   have hcz5_0 := zcb HGz5
   have hcz5_1 := zca HGz5
   have hcz5_2 := zcf HGz5
   have hcz5_3 := zce HGz5
   have hfz5_1 := zab HGz5 1
   have hfz5_2 := zab HGz5 2
   have hfz5_3 := zab HGz5 3
   clear HGz5 hgz5
   go_wp2
   repeat (go_quiet (fail); try go_wp2)
   go_meet
   case rel => exact ⟨_, (decide ((wrap64 ((s0_0.length : Int) - s0_1)) < 8)), (by first | rfl | (simp; done) | (simp [*]; done)), H', ⟨by first | omega | exact Nat.le_refl _⟩, ⟨by repeat (first | (with_reducible first | exact HI0.out | apply IsS50.alloc | apply IsS50.drewN | apply IsS50.drew | apply IsS50.zbx | apply IsS50.zbv | apply IsS50.zch) | exact HI0.out)⟩, ⟨by repeat (first | (with_reducible first | exact HK.out | apply KeepBut.set_ | apply zas | apply zav | apply zar) | exact HK.out)⟩, ⟨by repeat (first | (with_reducible first | exact HB.out | apply zad | apply zac | apply zae | refine zah ?_ (IsS50.ge HI0.out)) | exact HB.out)⟩⟩
 case rest =>
  clear HC2
  try clear p2
  try clear c3
  try clear c4
  try clear hcz4_0
  try clear hcz4_1
  try clear hcz4_2
  try clear hcz4_3
  try clear hcz5_0
  try clear hcz5_1
  try clear hcz5_2
  try clear hcz5_3
  try clear hfz4_1
  try clear hfz4_2
  try clear hfz4_3
  try clear hfz5_1
  try clear hfz5_2
  try clear hfz5_3
  obtain ⟨kq, x21_1, rfl, HA, HJ1, HI0, HK, HB⟩ := hcut
  cases kq with
  | zero => exact absurd HA.out (by simp [zaj.j0])
  | succ kj1 =>
   have H := HA.out
   clear HA
   simp only [zaj.j0] at H
   by_cases c6 : x21_1 = true
   ·subst c6
    have H1 : (some (0, s0_1, true, s0_3)) = some (r1, r2, r3, r4) := by rw [if_pos rfl] at H; exact H
    clear H
    have H := H1
    clear H1
    simp only [Option.some.injEq, Prod.mk.injEq] at H
    obtain ⟨rfl, rfl, rfl, rfl⟩ := H
    obtain ⟨ASz7_0, cSz7_0, HGz7, hgz7, ⟨HSz7_0, -, -, -⟩⟩ := HI0.out
    have hcz7_0 := zcb HGz7
    have hcz7_1 := zca HGz7
    have hcz7_2 := zcf HGz7
    have hcz7_3 := zce HGz7
    have hfz7_1 := zab HGz7 1
    have hfz7_2 := zab HGz7 2
    have hfz7_3 := zab HGz7 3
    clear HGz7 hgz7
    go_wp2
    repeat (go_quiet (fail); try go_wp2)
    go_ret
    exact ⟨by first | rfl | (simp [zay, zax] <;> rfl) | (simp [*, zay, zax] <;> rfl), by repeat (first | (with_reducible first | exact HI0.out | apply IsS50.alloc | apply IsS50.drewN | apply IsS50.drew | apply IsS50.zbx | apply IsS50.zbv | apply IsS50.zch) | exact HI0.out), by repeat (first | (with_reducible first | exact HB.out | apply zad | apply zac | apply zae | refine zah ?_ (IsS50.ge HI0.out)) | exact HB.out), by repeat (first | (with_reducible first | exact HK.out | apply KeepBut.set_ | apply zas | apply zav | apply zar) | exact HK.out)⟩
   ·replace c6 := Bool.eq_false_iff.mpr c6
    subst c6
    have H1 : (zaj.l0 kj1 0 0 s0_0 s0_1 s0_2 s0_3) = some (r1, r2, r3, r4) := by rw [if_neg (show ¬ (false = true) by decide)] at H; exact H
    clear H
    have H := H1
    clear H1
    have H' := Aside0.mk H
    clear H
    go_wp2
    repeat (go_quiet (fail); try go_wp2)
    go_loopg [3, 4] kj1 (fun kq v3 v4 w' => ∃ (x3_2 : Int) (x4_2 : Int), v3 = .int .u64 x3_2 ∧ v4 = .int .i64 x4_2 ∧ Aside0 (zaj.l0 kq x3_2 x4_2 s0_0 s0_1 s0_2 s0_3 = some (r1, r2, r3, r4)) ∧ Aside0 (kq ≤ kj1) ∧ Aside0 (IsS50 As0 cs0 w0 w' g s0_0 s0_1 s0_2 s0_3) ∧ Aside0 (KeepBut w w' g none) ∧ Aside0 (Below w0.heap.size w0 w'))
    case atStart => exact ⟨(0), (0), (by first | rfl | (simp; done) | (simp [*]; done)), (by first | rfl | (simp; done) | (simp [*]; done)), H', ⟨Nat.le_refl _⟩, ⟨by repeat (first | (with_reducible first | exact HI0.out | apply IsS50.alloc | apply IsS50.drewN | apply IsS50.drew | apply IsS50.zbx | apply IsS50.zbv | apply IsS50.zch) | exact HI0.out)⟩, ⟨by repeat (first | (with_reducible first | exact HK.out | apply KeepBut.set_ | apply zas | apply zav | apply zar) | exact HK.out)⟩, ⟨by repeat (first | (with_reducible first | exact HB.out | apply zad | apply zac | apply zae | refine zah ?_ (IsS50.ge HI0.out)) | exact HB.out)⟩⟩
    case round =>
     clear H'
     try clear p2
     try clear c3
     try clear c4
     try clear c6
     try clear p6
     try clear hcz4_0
     try clear hcz4_1
     try clear hcz4_2
     try clear hcz4_3
     try clear hcz5_0
     try clear hcz5_1
     try clear hcz5_2
     try clear hcz5_3
     try clear hcz7_0
     try clear hcz7_1
     try clear hcz7_2
     try clear hcz7_3
     try clear hfz4_1
     try clear hfz4_2
     try clear hfz4_3
     try clear hfz5_1
     try clear hfz5_2
     try clear hfz5_3
     try clear hfz7_1
     try clear hfz7_2
     try clear hfz7_3
     try clear p2
     obtain ⟨x3_2, x4_2, rfl, rfl, HA, HK2, HI0, HK, HB⟩ := hrel
     cases gk with
     | zero => exact absurd HA.out (by simp [zaj.l0])
     | succ k2 =>
      have H := HA.out
      clear HA
      simp only [zaj.l0] at H
      by_cases c8 : x4_2 < 8
      ·rw [if_pos c8] at H
       have c8b0 : decide (x4_2 < 8) = true := decide_eq_true c8
       clear c8
       obtain ⟨ji9, hji9⟩ : ∃ j_ : Int, (wrap64 (s0_1 + x4_2)) = j_ := ⟨_, rfl⟩
       replace H : (if 0 ≤ (ji9) then (if (ji9) < (s0_0.length : Int) then (zaj.l0 k2 (IntKind.u64.wrap ((IntKind.u64.wrap (256 * x3_2)) + (IntKind.u64.wrap (rd s0_0 (ji9))))) (wrap64 (x4_2 + 1)) s0_0 s0_1 s0_2 s0_3) else (none)) else (none)) = some (r1, r2, r3, r4) := by first | (rw [hji9] at H; exact H) | (simp only [hji9] at H ⊢; exact H)
       have hji9w : (IntKind.i64.wrap (s0_1 + x4_2)) = ji9 := (zbz _).trans hji9
       by_cases c10 : 0 ≤ (ji9)
       ·rw [if_pos c10] at H
        have c10b0 : decide (0 ≤ (ji9)) = true := decide_eq_true c10
        clear c10
        by_cases c11 : (ji9) < (s0_0.length : Int)
        ·rw [if_pos c11] at H
         have c11b0 : decide ((ji9) < (s0_0.length : Int)) = true := decide_eq_true c11
         clear c11
         have H' := Aside0.mk H
         clear H
         obtain ⟨ASz12_0, cSz12_0, HGz12, hgz12, ⟨HSz12_0, -, -, -⟩⟩ := HI0.out
         have hcz12_0 := zcb HGz12
         have hcz12_1 := zca HGz12
         have hcz12_2 := zcf HGz12
         have hcz12_3 := zce HGz12
         have hfz12_1 := zab HGz12 1
         have hfz12_2 := zab HGz12 2
         have hfz12_3 := zab HGz12 3
         clear HGz12 hgz12
         have p101 : 0 ≤ ((ji9) : Int) := of_decide_eq_true (by first | (with_reducible assumption) | assumption)
         have q101 : (ji9) < (s0_0.length : Int) := of_decide_eq_true (by first | (with_reducible assumption) | assumption)
         obtain ⟨ad101, e101, hx101_0⟩ := Kd.zfg HSz12_0 (ji9) p101 q101
         cases e101
         replace hx101_0 := zdi HB.out hx101_0
         replace p101 := eq_true p101
         replace q101 := eq_true q101
         go_wp2
         repeat (go_quiet (fail); try go_wp2)
         go_roundg k2
         case measure => have := HJ1.out; have := HK2.out; omega
         case rel => exact ⟨(IntKind.u64.wrap ((IntKind.u64.wrap (256 * x3_2)) + (IntKind.u64.wrap (rd s0_0 (ji9))))), (wrap64 (x4_2 + 1)), (by first | rfl | (simp; done) | (simp only [← hji9] <;> (first | rfl | simp)) | (simp [*]; done)), (by first | rfl | (simp; done) | (simp [*]; done)), H', ⟨by have := HJ1.out; have := HK2.out; omega⟩, ⟨by repeat (first | (with_reducible first | exact HI0.out | apply IsS50.alloc | apply IsS50.drewN | apply IsS50.drew | apply IsS50.zbx | apply IsS50.zbv | apply IsS50.zch) | exact HI0.out)⟩, ⟨by repeat (first | (with_reducible first | exact HK.out | apply KeepBut.set_ | apply zas | apply zav | apply zar) | exact HK.out)⟩, ⟨by repeat (first | (with_reducible first | exact HB.out | apply zad | apply zac | apply zae | refine zah ?_ (IsS50.ge HI0.out)) | exact HB.out)⟩⟩
        ·rw [if_neg c11] at H
         exact absurd H (by simp)
       ·rw [if_neg c10] at H
        exact absurd H (by simp)
      ·rw [if_neg c8] at H
       have c8b0 : decide (x4_2 < 8) = false := decide_eq_false c8
       clear c8
       simp only [Option.some.injEq, Prod.mk.injEq] at H
       obtain ⟨rfl, rfl, rfl, rfl⟩ := H
       obtain ⟨ASz13_0, cSz13_0, HGz13, hgz13, ⟨HSz13_0, -, -, -⟩⟩ := HI0.out
       have hcz13_0 := zcb HGz13
       have hcz13_1 := zca HGz13
       have hcz13_2 := zcf HGz13
       have hcz13_3 := zce HGz13
       have hfz13_1 := zab HGz13 1
       have hfz13_2 := zab HGz13 2
       have hfz13_3 := zab HGz13 3
       clear HGz13 hgz13
       go_wp2
       repeat (go_quiet (fail); try go_wp2)
       go_ret
       exact ⟨by first | rfl | (simp [zay, zax] <;> rfl) | (simp [*, zay, zax] <;> rfl), by repeat (first | (with_reducible first | exact HI0.out | apply IsS50.alloc | apply IsS50.drewN | apply IsS50.drew | apply IsS50.zbx | apply IsS50.zbv | apply IsS50.zch) | exact HI0.out), by repeat (first | (with_reducible first | exact HB.out | apply zad | apply zac | apply zae | refine zah ?_ (IsS50.ge HI0.out)) | exact HB.out), by repeat (first | (with_reducible first | exact HK.out | apply KeepBut.set_ | apply zas | apply zav | apply zar) | exact HK.out)⟩
def zap.f (k : Nat) (s0_0 : List Int) (s0_1 : Int) (s0_2 : Bool) (s0_3 : Bool) : Option (ByteArray × Int × Bool × Bool) := (zaj.f k s0_0 s0_1 s0_2 s0_3).bind fun t => if t.2.2.1 = true then some (⟨#[]⟩, t.2.1, true, t.2.2.2) else if 0 ≤ t.2.1 ∧ t.2.1 ≤ s0_0.length ∧ 0 ≤ t.1 ∧ t.1 < 18446744073709551616 ∧ s0_0.length ≤ 1099511627776 then (if (s0_0.length : Int) - t.2.1 < t.1 then some (⟨#[]⟩, t.2.1, true, t.2.2.2) else some (strOfNums ((s0_0.drop t.2.1.toNat).take t.1.toNat), t.2.1 + t.1, t.2.2.1, t.2.2.2)) else none
set_option maxHeartbeats 800000 in
set_option maxRecDepth 100000 in
theorem zap.calls {As0 : Option Addr} {cs0 : Nat} (k : Nat) (g : Nat) (s0_0 : List Int) (s0_1 : Int) (s0_2 : Bool) (s0_3 : Bool) (r1 : ByteArray) (r2 : Int) (r3 : Bool) (r4 : Bool) (w0 w : World) (hI : IsS50 As0 cs0 w0 w g s0_0 s0_1 s0_2 s0_3) (hB : Below w0.heap.size w0 w) (h : zap.f k s0_0 s0_1 s0_2 s0_3 = some (r1, r2, r3, r4)) :
  Calls Try.prog 45 #[.pointer (some ⟨g, 0, none⟩)] w fun e w' => e = .returned (.string r1) ∧ IsS50 As0 cs0 w0 w' g s0_0 r2 r3 r4 ∧ Below w0.heap.size w0 w' ∧ KeepBut w w' g none := by
 unfold zap.f at h
 obtain ⟨⟨n, at', sh', fo'⟩, hn, h⟩ := Option.bind_eq_some_iff.mp h
 dsimp only at h
 have HN := Aside0.mk hn
 have HI := Aside0.mk hI
 have HB := Aside0.mk hB
 clear hn hI hB
 by_cases c : sh' = true
 ·subst c
  rw [if_pos rfl] at h
  simp only [Option.some.injEq, Prod.mk.injEq] at h
  obtain ⟨rfl, rfl, rfl, rfl⟩ := h
  go_enter Try.func45, Try.ntmps45
  go_wp2_with (go_at_call 44; (with_reducible refine (zaj.calls (As0 := As0) (cs0 := cs0) k g s0_0 s0_1 s0_2 s0_3 n at' true fo' w0 _ ?s1 ?s2 HN.out).mono ?_); (case s1 => exact HI.out); (case s2 => exact HB.out); rintro e w1 ⟨rfl, h1, hb1, hk1⟩; have H1 := Aside0.mk h1; have HB1 := Aside0.mk hb1; have HK1 := Aside0.mk hk1; obtain ⟨A, c, HG, hg, ⟨hc, -, -, hl⟩⟩ := h1; have c0 := zcb HG; have c1 := zca HG; have c2 := zcf HG; have c3 := zce HG; have f1 := zab HG 1; have f2 := zab HG 2; have f3 := zab HG 3; clear HG hg hc hl hb1 hk1)
  repeat (go_quiet (fail); try go_wp2)
  go_ret
  exact ⟨rfl, by repeat (first | exact H1.out | apply IsS50.drewN | apply IsS50.drew | apply IsS50.zbv), by repeat (first | exact HB1.out | apply zac | apply zae | refine zah ?_ (IsS50.ge H1.out)), by repeat (first | exact HK1.out | apply KeepBut.set_ | apply zas | apply zav)⟩
 ·replace c := Bool.eq_false_iff.mpr c
  subst c
  rw [if_neg (by simp)] at h
  by_cases hc : 0 ≤ at' ∧ at' ≤ s0_0.length ∧ 0 ≤ n ∧ n < 18446744073709551616 ∧ s0_0.length ≤ 1099511627776
  ·rw [if_pos hc] at h
   obtain ⟨a0, a1, a2, a3, a4⟩ := hc
   by_cases b2 : (s0_0.length : Int) - at' < n
   ·rw [if_pos b2] at h
    simp only [Option.some.injEq, Prod.mk.injEq] at h
    obtain ⟨rfl, rfl, rfl, rfl⟩ := h
    go_enter Try.func45, Try.ntmps45
    go_wp2_with (go_at_call 44; (with_reducible refine (zaj.calls (As0 := As0) (cs0 := cs0) k g s0_0 s0_1 s0_2 s0_3 n at' false fo' w0 _ ?s1 ?s2 HN.out).mono ?_); (case s1 => exact HI.out); (case s2 => exact HB.out); rintro e w1 ⟨rfl, h1, hb1, hk1⟩; have H1 := Aside0.mk h1; have HB1 := Aside0.mk hb1; have HK1 := Aside0.mk hk1; obtain ⟨A, c, HG, hg, ⟨hc, -, -, hl⟩⟩ := h1; have c0 := zcb HG; have c1 := zca HG; have c2 := zcf HG; have c3 := zce HG; have f1 := zab HG 1; have f2 := zab HG 2; have f3 := zab HG 3; clear HG hg hc hl hb1 hk1)
    repeat (go_quiet (fail); try go_wp2)
    go_ret
    exact ⟨rfl, by repeat (first | exact H1.out | apply IsS50.drewN | apply IsS50.drew | apply IsS50.zbv), by repeat (first | exact HB1.out | apply zac | apply zae | refine zah ?_ (IsS50.ge H1.out)), by repeat (first | exact HK1.out | apply KeepBut.set_ | apply zas | apply zav)⟩
   ·rw [if_neg b2] at h
    simp only [Option.some.injEq, Prod.mk.injEq] at h
    obtain ⟨rfl, rfl, rfl, rfl⟩ := h
    go_enter Try.func45, Try.ntmps45
    go_wp2_with (go_at_call 44; (with_reducible refine (zaj.calls (As0 := As0) (cs0 := cs0) k g s0_0 s0_1 s0_2 s0_3 n at' false fo' w0 _ ?s1 ?s2 HN.out).mono ?_); (case s1 => exact HI.out); (case s2 => exact HB.out); rintro e w1 ⟨rfl, h1, hb1, hk1⟩; have H1 := Aside0.mk h1; have HB1 := Aside0.mk hb1; have HK1 := Aside0.mk hk1; obtain ⟨A, c, HG, hg, ⟨hc, -, -, hl⟩⟩ := h1; have c0 := zcb HG; have c1 := zca HG; have c2 := zcf HG; have c3 := zce HG; have f1 := zab HG 1; have f2 := zab HG 2; have f3 := zab HG 3; have HC := Aside0.mk hc; have HL := Aside0.mk hl; clear HG hg hc hb1 hk1)
    go_upto_region 5 with (go_at_call 44; (with_reducible refine (zaj.calls (As0 := As0) (cs0 := cs0) k g s0_0 s0_1 s0_2 s0_3 n at' false fo' w0 _ ?s1 ?s2 HN.out).mono ?_); (case s1 => exact HI.out); (case s2 => exact HB.out); rintro e w1 ⟨rfl, h1, hb1, hk1⟩; have H1 := Aside0.mk h1; have HB1 := Aside0.mk hb1; have HK1 := Aside0.mk hk1; obtain ⟨A, c, HG, hg, ⟨hc, -, -, hl⟩⟩ := h1; have c0 := zcb HG; have c1 := zca HG; have c2 := zcf HG; have c3 := zce HG; have f1 := zab HG 1; have f2 := zab HG 2; have f3 := zab HG 3; have HC := Aside0.mk hc; have HL := Aside0.mk hl; clear HG hg hc hb1 hk1)
    repeat (go_quiet (fail); go_upto_region 5 with (fail))
    go_cut [34] (fun v34 wc => v34 = .int .i64 (at' + n) ∧ Aside0 (IsS50 As0 cs0 w0 wc g s0_0 (at' + n) false fo') ∧ Aside0 (Below w0.heap.size w0 wc) ∧ Aside0 (KeepBut w wc g none))
    case first =>
     go_wp2
     go_meet
     case rel => exact ⟨rfl, ⟨by repeat (first | exact H1.out | apply IsS50.drewN | apply IsS50.drew | apply IsS50.zbx)⟩, ⟨by repeat (first | exact HB1.out | apply zac | apply zae | refine zah ?_ (IsS50.ge H1.out))⟩, ⟨by repeat (first | exact HK1.out | apply KeepBut.set_ | apply zas | apply zav)⟩⟩
    case rest =>
     obtain ⟨rfl, H2, HB2, HK2⟩ := hcut
     obtain ⟨A, c, HG, hg, ⟨hc, -, -, hl⟩⟩ := H2.out
     have c0 := zcb HG
     have c1 := zca HG
     clear HG hg
     obtain ⟨i5, hi5, _, hsz5, _⟩ := info_parts info5
     have hmid := Kd.C_mid (lo := at'.toNat) (hi := (at' + n).toNat) hc (by omega) (by omega) hl
     have hcv : ∀ m, _ := fun m => Kd.zgq (P := Try.prog) (src := 27) (dst := 9) (c := c - at'.toNat) Try.underlying27 Try.underlying5 Try.underlying9 (Kd.zci hmid (zac HB2.out m))
     have hcut := cut_mid (P := Try.prog) 27 5 .i64 .i64 Try.underlying27 hi5 1 hsz5 A s0_0.length c at' (at' + n) (by omega) (by omega) (by omega) hl
     have hlen : ((s0_0.take (at' + n).toNat).drop at'.toNat).length = (at' + n).toNat - at'.toNat := by rw [List.length_drop, List.length_take]; omega
     rw [show (Kd.int IntKind.u8).sz = 1 from rfl, hlen] at hcv
     generalize (if c = at'.toNat then A else A.map (·.add (at'.toNat * 1))) = X at hcut hcv
     generalize (at' + n).toNat - at'.toNat = N1 at hcut hcv
     generalize c - at'.toNat = C1 at hcut hcv
     have hw1 : IntKind.i64.wrap n = n := IntWalk.i64_in _ (by omega)
     have hw2 : IntKind.i64.wrap (at' + n - n) = at' := by rw [show at' + n - n = at' by omega]; exact IntWalk.i64_in _ (by omega)
     have hw3 : IntKind.i64.wrap at' = at' := IntWalk.i64_in _ (by omega)
     clear hi5 hsz5 hlen hmid
     go_wp2
     go_quiet (fail)
     (try go_wp2)
     go_ret
     have hs : (s0_0.drop at'.toNat).take n.toNat = (s0_0.take (at' + n).toNat).drop at'.toNat := by rw [List.drop_take]; congr 1; omega
     exact ⟨by rw [hs]; rfl, by repeat (first | exact H2.out | apply IsS50.drewN | apply IsS50.drew), by repeat (first | exact HB2.out | apply zac | apply zae), by repeat (first | exact HK2.out | apply zas | apply zav)⟩
  ·rw [if_neg hc] at h
   cases h
def zbj.f (k : Nat) (s0_0 : List Int) (s0_1 : Int) (s0_2 : Bool) (s0_3 : Bool) : Option (Int × Int × Bool × Bool) := (zaj.f k s0_0 s0_1 s0_2 s0_3).bind fun bt102 => (if bt102.2.2.1 = true then (some (0, bt102.2.1, true, bt102.2.2.2)) else (if (IntKind.u64.wrap (wrap64 ((s0_0.length : Int) - bt102.2.1))) < bt102.1 then (some (0, bt102.2.1, true, bt102.2.2.2)) else (some (wrap64 (bt102.1), bt102.2.1, bt102.2.2.1, bt102.2.2.2))))
set_option maxHeartbeats 8000000 in
set_option maxRecDepth 100000 in
theorem zbj.calls (k : Nat) {As0 : Option Addr} {cs0 : Nat} (g : Nat) (s0_0 : List Int) (s0_1 : Int) (s0_2 : Bool) (s0_3 : Bool) (r1 : Int) (r2 : Int) (r3 : Bool) (r4 : Bool) (w0 w : World) (hI : IsS50 As0 cs0 w0 w g s0_0 s0_1 s0_2 s0_3) (hB : Below w0.heap.size w0 w) (h : zbj.f k s0_0 s0_1 s0_2 s0_3 = some (r1, r2, r3, r4)) :
  Calls Try.prog 46 #[.pointer (some ⟨g, 0, none⟩)] w fun e w' => e = .returned (.int .i64 r1) ∧ IsS50 As0 cs0 w0 w' g s0_0 r2 r3 r4 ∧ Below w0.heap.size w0 w' ∧ KeepBut w w' g none := by
 have HI0 := Aside0.mk hI
 have HK := Aside0.mk (KeepBut.refl w g none)
 have HL := Aside0.mk hB.size
 clear hI
 have HW0 := Aside0.mk hB.size
 have HB := Aside0.mk hB
 clear hB
 have H : ((zaj.f k s0_0 s0_1 s0_2 s0_3).bind fun bt102 => (if bt102.2.2.1 = true then (some (0, bt102.2.1, true, bt102.2.2.2)) else (if (IntKind.u64.wrap (wrap64 ((s0_0.length : Int) - bt102.2.1))) < bt102.1 then (some (0, bt102.2.1, true, bt102.2.2.2)) else (some (wrap64 (bt102.1), bt102.2.1, bt102.2.2.1, bt102.2.2.2))))) = some (r1, r2, r3, r4) := h
 clear h
 replace H := Option.bind_eq_some_iff.mp H
 obtain ⟨⟨t102, t103, t104, t105⟩, A20, H⟩ := H
 replace H : (if t104 = true then (some (0, t103, true, t105)) else (if (IntKind.u64.wrap (wrap64 ((s0_0.length : Int) - t103))) < t102 then (some (0, t103, true, t105)) else (some (wrap64 (t102), t103, t104, t105)))) = some (r1, r2, r3, r4) := H
 have A2 := Aside0.mk A20
 clear A20
 by_cases c3 : t104 = true
 ·subst c3
  have H1 : (some (0, t103, true, t105)) = some (r1, r2, r3, r4) := by rw [if_pos rfl] at H; exact H
  clear H
  have H := H1
  clear H1
  simp only [Option.some.injEq, Prod.mk.injEq] at H
  obtain ⟨rfl, rfl, rfl, rfl⟩ := H
  go_enter Try.func46, Try.ntmps46
  go_wp2_with (first | (go_at_call 44; (with_reducible refine (zaj.calls k (As0 := As0) (cs0 := cs0) g s0_0 s0_1 s0_2 s0_3 t102 t103 true t105 w0 _ ?side1 ?side2 A2.out).mono ?_); (case side1 => repeat (first | (with_reducible first | exact HI0.out | apply IsS50.alloc | apply IsS50.drewN | apply IsS50.drew | apply IsS50.zbx | apply IsS50.zbv | apply IsS50.zch) | exact HI0.out)); (case side2 => repeat (first | (with_reducible first | exact HB.out | apply zad | apply zac | apply zae | refine zah ?_ (IsS50.ge HI0.out)) | exact HB.out)); rintro e w4 ⟨rfl, hi, hb, hk⟩; have n0_ := Aside0.mk (KeepBut.trans (by repeat (first | (with_reducible first | exact HK.out | apply KeepBut.set_ | apply zas | apply zav | apply zar) | exact HK.out)) hk (.inl rfl)); have n1_ := Aside0.mk (hb); have n2_ := Aside0.mk (hi); clear HK; clear HB; clear HI0; have HK := n0_; have HB := n1_; have HI0 := n2_; clear n0_ n1_ n2_; (try clear hb); (try clear hb2); (try clear hk); (try clear hi); obtain ⟨ASz5_0, cSz5_0, HGz5, hgz5, ⟨HSz5_0, -, -, -⟩⟩ := HI0.out; have hcz5_0 := zcb HGz5; have hcz5_1 := zca HGz5; have hcz5_2 := zcf HGz5; have hcz5_3 := zce HGz5; have hfz5_1 := zab HGz5 1; have hfz5_2 := zab HGz5 2; have hfz5_3 := zab HGz5 3; clear HGz5 hgz5))
  repeat (go_quiet (first | (go_at_call 44; (with_reducible refine (zaj.calls k (As0 := As0) (cs0 := cs0) g s0_0 s0_1 s0_2 s0_3 t102 t103 true t105 w0 _ ?side1 ?side2 A2.out).mono ?_); (case side1 => repeat (first | (with_reducible first | exact HI0.out | apply IsS50.alloc | apply IsS50.drewN | apply IsS50.drew | apply IsS50.zbx | apply IsS50.zbv | apply IsS50.zch) | exact HI0.out)); (case side2 => repeat (first | (with_reducible first | exact HB.out | apply zad | apply zac | apply zae | refine zah ?_ (IsS50.ge HI0.out)) | exact HB.out)); rintro e w4 ⟨rfl, hi, hb, hk⟩; have n0_ := Aside0.mk (KeepBut.trans (by repeat (first | (with_reducible first | exact HK.out | apply KeepBut.set_ | apply zas | apply zav | apply zar) | exact HK.out)) hk (.inl rfl)); have n1_ := Aside0.mk (hb); have n2_ := Aside0.mk (hi); clear HK; clear HB; clear HI0; have HK := n0_; have HB := n1_; have HI0 := n2_; clear n0_ n1_ n2_; (try clear hb); (try clear hb2); (try clear hk); (try clear hi); obtain ⟨ASz5_0, cSz5_0, HGz5, hgz5, ⟨HSz5_0, -, -, -⟩⟩ := HI0.out; have hcz5_0 := zcb HGz5; have hcz5_1 := zca HGz5; have hcz5_2 := zcf HGz5; have hcz5_3 := zce HGz5; have hfz5_1 := zab HGz5 1; have hfz5_2 := zab HGz5 2; have hfz5_3 := zab HGz5 3; clear HGz5 hgz5)); try go_wp2_with (first | (go_at_call 44; (with_reducible refine (zaj.calls k (As0 := As0) (cs0 := cs0) g s0_0 s0_1 s0_2 s0_3 t102 t103 true t105 w0 _ ?side1 ?side2 A2.out).mono ?_); (case side1 => repeat (first | (with_reducible first | exact HI0.out | apply IsS50.alloc | apply IsS50.drewN | apply IsS50.drew | apply IsS50.zbx | apply IsS50.zbv | apply IsS50.zch) | exact HI0.out)); (case side2 => repeat (first | (with_reducible first | exact HB.out | apply zad | apply zac | apply zae | refine zah ?_ (IsS50.ge HI0.out)) | exact HB.out)); rintro e w4 ⟨rfl, hi, hb, hk⟩; have n0_ := Aside0.mk (KeepBut.trans (by repeat (first | (with_reducible first | exact HK.out | apply KeepBut.set_ | apply zas | apply zav | apply zar) | exact HK.out)) hk (.inl rfl)); have n1_ := Aside0.mk (hb); have n2_ := Aside0.mk (hi); clear HK; clear HB; clear HI0; have HK := n0_; have HB := n1_; have HI0 := n2_; clear n0_ n1_ n2_; (try clear hb); (try clear hb2); (try clear hk); (try clear hi); obtain ⟨ASz5_0, cSz5_0, HGz5, hgz5, ⟨HSz5_0, -, -, -⟩⟩ := HI0.out; have hcz5_0 := zcb HGz5; have hcz5_1 := zca HGz5; have hcz5_2 := zcf HGz5; have hcz5_3 := zce HGz5; have hfz5_1 := zab HGz5 1; have hfz5_2 := zab HGz5 2; have hfz5_3 := zab HGz5 3; clear HGz5 hgz5)))
  go_ret
  exact ⟨by first | rfl | (simp [zay, zax] <;> rfl) | (simp [*, zay, zax] <;> rfl), by repeat (first | (with_reducible first | exact HI0.out | apply IsS50.alloc | apply IsS50.drewN | apply IsS50.drew | apply IsS50.zbx | apply IsS50.zbv | apply IsS50.zch) | exact HI0.out), by repeat (first | (with_reducible first | exact HB.out | apply zad | apply zac | apply zae | refine zah ?_ (IsS50.ge HI0.out)) | exact HB.out), by repeat (first | (with_reducible first | exact HK.out | apply KeepBut.set_ | apply zas | apply zav | apply zar) | exact HK.out)⟩
 ·replace c3 := Bool.eq_false_iff.mpr c3
  subst c3
  have H1 : (if (IntKind.u64.wrap (wrap64 ((s0_0.length : Int) - t103))) < t102 then (some (0, t103, true, t105)) else (some (wrap64 (t102), t103, false, t105))) = some (r1, r2, r3, r4) := by rw [if_neg (show ¬ (false = true) by decide)] at H; exact H
  clear H
  have H := H1
  clear H1
  by_cases c6 : (IntKind.u64.wrap (wrap64 ((s0_0.length : Int) - t103))) < t102
  ·rw [if_pos c6] at H
   have c6b0 : decide ((IntKind.u64.wrap (wrap64 ((s0_0.length : Int) - t103))) < t102) = true := decide_eq_true c6
   clear c6
   simp only [Option.some.injEq, Prod.mk.injEq] at H
   obtain ⟨rfl, rfl, rfl, rfl⟩ := H
   go_enter Try.func46, Try.ntmps46
   go_wp2_with (first | (go_at_call 44; (with_reducible refine (zaj.calls k (As0 := As0) (cs0 := cs0) g s0_0 s0_1 s0_2 s0_3 t102 t103 false t105 w0 _ ?side1 ?side2 A2.out).mono ?_); (case side1 => repeat (first | (with_reducible first | exact HI0.out | apply IsS50.alloc | apply IsS50.drewN | apply IsS50.drew | apply IsS50.zbx | apply IsS50.zbv | apply IsS50.zch) | exact HI0.out)); (case side2 => repeat (first | (with_reducible first | exact HB.out | apply zad | apply zac | apply zae | refine zah ?_ (IsS50.ge HI0.out)) | exact HB.out)); rintro e w7 ⟨rfl, hi, hb, hk⟩; have n0_ := Aside0.mk (KeepBut.trans (by repeat (first | (with_reducible first | exact HK.out | apply KeepBut.set_ | apply zas | apply zav | apply zar) | exact HK.out)) hk (.inl rfl)); have n1_ := Aside0.mk (hb); have n2_ := Aside0.mk (hi); clear HK; clear HB; clear HI0; have HK := n0_; have HB := n1_; have HI0 := n2_; clear n0_ n1_ n2_; (try clear hb); (try clear hb2); (try clear hk); (try clear hi); obtain ⟨ASz8_0, cSz8_0, HGz8, hgz8, ⟨HSz8_0, -, -, -⟩⟩ := HI0.out; have hcz8_0 := zcb HGz8; have hcz8_1 := zca HGz8; have hcz8_2 := zcf HGz8; have hcz8_3 := zce HGz8; have hfz8_1 := zab HGz8 1; have hfz8_2 := zab HGz8 2; have hfz8_3 := zab HGz8 3; clear HGz8 hgz8))
   repeat (go_quiet (first | (go_at_call 44; (with_reducible refine (zaj.calls k (As0 := As0) (cs0 := cs0) g s0_0 s0_1 s0_2 s0_3 t102 t103 false t105 w0 _ ?side1 ?side2 A2.out).mono ?_); (case side1 => repeat (first | (with_reducible first | exact HI0.out | apply IsS50.alloc | apply IsS50.drewN | apply IsS50.drew | apply IsS50.zbx | apply IsS50.zbv | apply IsS50.zch) | exact HI0.out)); (case side2 => repeat (first | (with_reducible first | exact HB.out | apply zad | apply zac | apply zae | refine zah ?_ (IsS50.ge HI0.out)) | exact HB.out)); rintro e w7 ⟨rfl, hi, hb, hk⟩; have n0_ := Aside0.mk (KeepBut.trans (by repeat (first | (with_reducible first | exact HK.out | apply KeepBut.set_ | apply zas | apply zav | apply zar) | exact HK.out)) hk (.inl rfl)); have n1_ := Aside0.mk (hb); have n2_ := Aside0.mk (hi); clear HK; clear HB; clear HI0; have HK := n0_; have HB := n1_; have HI0 := n2_; clear n0_ n1_ n2_; (try clear hb); (try clear hb2); (try clear hk); (try clear hi); obtain ⟨ASz8_0, cSz8_0, HGz8, hgz8, ⟨HSz8_0, -, -, -⟩⟩ := HI0.out; have hcz8_0 := zcb HGz8; have hcz8_1 := zca HGz8; have hcz8_2 := zcf HGz8; have hcz8_3 := zce HGz8; have hfz8_1 := zab HGz8 1; have hfz8_2 := zab HGz8 2; have hfz8_3 := zab HGz8 3; clear HGz8 hgz8)); try go_wp2_with (first | (go_at_call 44; (with_reducible refine (zaj.calls k (As0 := As0) (cs0 := cs0) g s0_0 s0_1 s0_2 s0_3 t102 t103 false t105 w0 _ ?side1 ?side2 A2.out).mono ?_); (case side1 => repeat (first | (with_reducible first | exact HI0.out | apply IsS50.alloc | apply IsS50.drewN | apply IsS50.drew | apply IsS50.zbx | apply IsS50.zbv | apply IsS50.zch) | exact HI0.out)); (case side2 => repeat (first | (with_reducible first | exact HB.out | apply zad | apply zac | apply zae | refine zah ?_ (IsS50.ge HI0.out)) | exact HB.out)); rintro e w7 ⟨rfl, hi, hb, hk⟩; have n0_ := Aside0.mk (KeepBut.trans (by repeat (first | (with_reducible first | exact HK.out | apply KeepBut.set_ | apply zas | apply zav | apply zar) | exact HK.out)) hk (.inl rfl)); have n1_ := Aside0.mk (hb); have n2_ := Aside0.mk (hi); clear HK; clear HB; clear HI0; have HK := n0_; have HB := n1_; have HI0 := n2_; clear n0_ n1_ n2_; (try clear hb); (try clear hb2); (try clear hk); (try clear hi); obtain ⟨ASz8_0, cSz8_0, HGz8, hgz8, ⟨HSz8_0, -, -, -⟩⟩ := HI0.out; have hcz8_0 := zcb HGz8; have hcz8_1 := zca HGz8; have hcz8_2 := zcf HGz8; have hcz8_3 := zce HGz8; have hfz8_1 := zab HGz8 1; have hfz8_2 := zab HGz8 2; have hfz8_3 := zab HGz8 3; clear HGz8 hgz8)))
   go_ret
   exact ⟨by first | rfl | (simp [zay, zax] <;> rfl) | (simp [*, zay, zax] <;> rfl), by repeat (first | (with_reducible first | exact HI0.out | apply IsS50.alloc | apply IsS50.drewN | apply IsS50.drew | apply IsS50.zbx | apply IsS50.zbv | apply IsS50.zch) | exact HI0.out), by repeat (first | (with_reducible first | exact HB.out | apply zad | apply zac | apply zae | refine zah ?_ (IsS50.ge HI0.out)) | exact HB.out), by repeat (first | (with_reducible first | exact HK.out | apply KeepBut.set_ | apply zas | apply zav | apply zar) | exact HK.out)⟩
  ·rw [if_neg c6] at H
   have c6b0 : decide ((IntKind.u64.wrap (wrap64 ((s0_0.length : Int) - t103))) < t102) = false := decide_eq_false c6
   clear c6
   simp only [Option.some.injEq, Prod.mk.injEq] at H
   obtain ⟨rfl, rfl, rfl, rfl⟩ := H
   go_enter Try.func46, Try.ntmps46
   go_wp2_with (first | (go_at_call 44; (with_reducible refine (zaj.calls k (As0 := As0) (cs0 := cs0) g s0_0 s0_1 s0_2 s0_3 t102 t103 false t105 w0 _ ?side1 ?side2 A2.out).mono ?_); (case side1 => repeat (first | (with_reducible first | exact HI0.out | apply IsS50.alloc | apply IsS50.drewN | apply IsS50.drew | apply IsS50.zbx | apply IsS50.zbv | apply IsS50.zch) | exact HI0.out)); (case side2 => repeat (first | (with_reducible first | exact HB.out | apply zad | apply zac | apply zae | refine zah ?_ (IsS50.ge HI0.out)) | exact HB.out)); rintro e w9 ⟨rfl, hi, hb, hk⟩; have n0_ := Aside0.mk (KeepBut.trans (by repeat (first | (with_reducible first | exact HK.out | apply KeepBut.set_ | apply zas | apply zav | apply zar) | exact HK.out)) hk (.inl rfl)); have n1_ := Aside0.mk (hb); have n2_ := Aside0.mk (hi); clear HK; clear HB; clear HI0; have HK := n0_; have HB := n1_; have HI0 := n2_; clear n0_ n1_ n2_; (try clear hb); (try clear hb2); (try clear hk); (try clear hi); obtain ⟨ASz10_0, cSz10_0, HGz10, hgz10, ⟨HSz10_0, -, -, -⟩⟩ := HI0.out; have hcz10_0 := zcb HGz10; have hcz10_1 := zca HGz10; have hcz10_2 := zcf HGz10; have hcz10_3 := zce HGz10; have hfz10_1 := zab HGz10 1; have hfz10_2 := zab HGz10 2; have hfz10_3 := zab HGz10 3; clear HGz10 hgz10))
   repeat (go_quiet (first | (go_at_call 44; (with_reducible refine (zaj.calls k (As0 := As0) (cs0 := cs0) g s0_0 s0_1 s0_2 s0_3 t102 t103 false t105 w0 _ ?side1 ?side2 A2.out).mono ?_); (case side1 => repeat (first | (with_reducible first | exact HI0.out | apply IsS50.alloc | apply IsS50.drewN | apply IsS50.drew | apply IsS50.zbx | apply IsS50.zbv | apply IsS50.zch) | exact HI0.out)); (case side2 => repeat (first | (with_reducible first | exact HB.out | apply zad | apply zac | apply zae | refine zah ?_ (IsS50.ge HI0.out)) | exact HB.out)); rintro e w9 ⟨rfl, hi, hb, hk⟩; have n0_ := Aside0.mk (KeepBut.trans (by repeat (first | (with_reducible first | exact HK.out | apply KeepBut.set_ | apply zas | apply zav | apply zar) | exact HK.out)) hk (.inl rfl)); have n1_ := Aside0.mk (hb); have n2_ := Aside0.mk (hi); clear HK; clear HB; clear HI0; have HK := n0_; have HB := n1_; have HI0 := n2_; clear n0_ n1_ n2_; (try clear hb); (try clear hb2); (try clear hk); (try clear hi); obtain ⟨ASz10_0, cSz10_0, HGz10, hgz10, ⟨HSz10_0, -, -, -⟩⟩ := HI0.out; have hcz10_0 := zcb HGz10; have hcz10_1 := zca HGz10; have hcz10_2 := zcf HGz10; have hcz10_3 := zce HGz10; have hfz10_1 := zab HGz10 1; have hfz10_2 := zab HGz10 2; have hfz10_3 := zab HGz10 3; clear HGz10 hgz10)); try go_wp2_with (first | (go_at_call 44; (with_reducible refine (zaj.calls k (As0 := As0) (cs0 := cs0) g s0_0 s0_1 s0_2 s0_3 t102 t103 false t105 w0 _ ?side1 ?side2 A2.out).mono ?_); (case side1 => repeat (first | (with_reducible first | exact HI0.out | apply IsS50.alloc | apply IsS50.drewN | apply IsS50.drew | apply IsS50.zbx | apply IsS50.zbv | apply IsS50.zch) | exact HI0.out)); (case side2 => repeat (first | (with_reducible first | exact HB.out | apply zad | apply zac | apply zae | refine zah ?_ (IsS50.ge HI0.out)) | exact HB.out)); rintro e w9 ⟨rfl, hi, hb, hk⟩; have n0_ := Aside0.mk (KeepBut.trans (by repeat (first | (with_reducible first | exact HK.out | apply KeepBut.set_ | apply zas | apply zav | apply zar) | exact HK.out)) hk (.inl rfl)); have n1_ := Aside0.mk (hb); have n2_ := Aside0.mk (hi); clear HK; clear HB; clear HI0; have HK := n0_; have HB := n1_; have HI0 := n2_; clear n0_ n1_ n2_; (try clear hb); (try clear hb2); (try clear hk); (try clear hi); obtain ⟨ASz10_0, cSz10_0, HGz10, hgz10, ⟨HSz10_0, -, -, -⟩⟩ := HI0.out; have hcz10_0 := zcb HGz10; have hcz10_1 := zca HGz10; have hcz10_2 := zcf HGz10; have hcz10_3 := zce HGz10; have hfz10_1 := zab HGz10 1; have hfz10_2 := zab HGz10 2; have hfz10_3 := zab HGz10 3; clear HGz10 hgz10)))
   go_ret
   exact ⟨by first | rfl | (simp [zay, zax] <;> rfl) | (simp [*, zay, zax] <;> rfl), by repeat (first | (with_reducible first | exact HI0.out | apply IsS50.alloc | apply IsS50.drewN | apply IsS50.drew | apply IsS50.zbx | apply IsS50.zbv | apply IsS50.zch) | exact HI0.out), by repeat (first | (with_reducible first | exact HB.out | apply zad | apply zac | apply zae | refine zah ?_ (IsS50.ge HI0.out)) | exact HB.out), by repeat (first | (with_reducible first | exact HK.out | apply KeepBut.set_ | apply zas | apply zav | apply zar) | exact HK.out)⟩
end Go.Proofs.Ytjhcbggpbfejgaa.XCodecGets
