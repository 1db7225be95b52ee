/- The document's tape over messages: the print's walks of its number, byte and count. -/
import Derived.Test.YtjhcbggpbfejgaaProg
import Derived.Below
import Derived.Deep.Draws
import Derived.Deep.AppendLies
import Derived.Maps.AppendAt
import Derived.OwnWalk
import Derived.Laws.BytesArg
import Derived.Laws.MakeOwn
import Derived.Laws.OwnMore
import Derived.Deep.OwnRows
import Derived.Tactics
import Derived.Lib.ConvBytes
import Derived.Laws.Slices
import Derived.WalkKit
import Derived.KernelRfl
import Derived.RowKit3
import Derived.Deep.LoopGhost
import Derived.Deep.QuietTactic
import Derived.BigQuiet
import Derived.WideLaws
import Derived.Deep.DeepCutAuto
import Derived.Deep.CutBlock
import Derived.Deep.RegionHeld3
import Derived.Laws.Rows
import Derived.Lib.AppendStr
import Derived.ArgAppend
import Derived.Laws.IdiomCopy
import Derived.OrdersHeld
import Derived.Laws.BitsLemmas
import Derived.RowKit
import Derived.Test.YtjhcbggpbfejgaaVw
namespace Go.Proofs.Ytjhcbggpbfejgaa.Pa
open Go.RowKit Go.Proofs.zjt.zjq Go.Proofs.zjt.zjr Go.Proofs.zjt.zjs
attribute [local go_sem] zes zeq zfi zfh zdy zdx zer zep   -- for this text's walks alone
set_option linter.unusedVariables false
set_option linter.unusedSimpArgs false
def IsS113 (As0 : Option Addr) (cs0 : Nat) (w0 W : World) (g : Nat) (f0 : List Int) (f1 : Int) (f2 : Bool) : Prop := ∃ A0 c0, W.heap[g]? = some (.cells #[.slice A0 f0.length c0, .int .i64 f1, .bool f2] 113 (0, 0)) ∧ w0.heap.size ≤ g ∧ (Kd.C (Kd.int .u8) w0 A0 f0.length f0 ∧ A0 = As0 ∧ c0 = cs0 ∧ f0.length ≤ c0)
theorem IsS113.grown {w0 W : World} {g : Nat} {As0 : Option Addr} {cs0 : Nat} {f0 : List Int} {f1 : Int} {f2 : Bool} {W1 : World} {row : Option Nat} (h : IsS113 As0 cs0 w0 W g f0 f1 f2) (hw : W.grownBy W1 row) (hne : some g ≠ row) : IsS113 As0 cs0 w0 W1 g f0 f1 f2 := by
  obtain ⟨A0, c0, hb, hg, hr0⟩ := h
  exact ⟨A0, c0, zbm hb hw hne, hg, hr0⟩
theorem IsS113.kept {w0 W : World} {g : Nat} {As0 : Option Addr} {cs0 : Nat} {f0 : List Int} {f1 : Int} {f2 : Bool} {W1 : World} {S : Nat → Prop} (h : IsS113 As0 cs0 w0 W g f0 f1 f2) (hk : Kept W W1 S) (hne : ¬ S g) : IsS113 As0 cs0 w0 W1 g f0 f1 f2 := by
  obtain ⟨A0, c0, hb, hg, hr0⟩ := h
  exact ⟨A0, c0, zbr hb hk hne, hg, hr0⟩
theorem IsS113.below {w0 W : World} {g : Nat} {As0 : Option Addr} {cs0 : Nat} {f0 : List Int} {f1 : Int} {f2 : Bool} {W1 : World} (h : IsS113 As0 cs0 w0 W g f0 f1 f2) (hw : Below W.heap.size W W1) : IsS113 As0 cs0 w0 W1 g f0 f1 f2 := h.grown (zfk hw none) (by simp)
theorem IsS113.alloc {w0 W : World} {g : Nat} {As0 : Option Addr} {cs0 : Nat} {f0 : List Int} {f1 : Int} {f2 : Bool} (h : IsS113 As0 cs0 w0 W g f0 f1 f2) (o : Obj) : IsS113 As0 cs0 w0 (W.alloc o) g f0 f1 f2 := h.below (zad (Below.refl _ _) o)
theorem IsS113.drewN {w0 W : World} {g : Nat} {As0 : Option Addr} {cs0 : Nat} {f0 : List Int} {f1 : Int} {f2 : Bool} (h : IsS113 As0 cs0 w0 W g f0 f1 f2) (m : Nat) : IsS113 As0 cs0 w0 (W.drewN m) g f0 f1 f2 := h
theorem IsS113.drew {w0 W : World} {g : Nat} {As0 : Option Addr} {cs0 : Nat} {f0 : List Int} {f1 : Int} {f2 : Bool} (h : IsS113 As0 cs0 w0 W g f0 f1 f2) : IsS113 As0 cs0 w0 W.drew g f0 f1 f2 := h
theorem IsS113.at_ {w0 W : World} {g : Nat} {As0 : Option Addr} {cs0 : Nat} {f0 : List Int} {f1 : Int} {f2 : Bool} {w' : World} {m : Nat} (hq : W.drewN m = w') (h : IsS113 As0 cs0 w0 W g f0 f1 f2) : IsS113 As0 cs0 w0 w' g f0 f1 f2 := by subst hq; exact IsS113.drewN h m
theorem IsS113.apart {w0 W : World} {g : Nat} {As0 : Option Addr} {cs0 : Nat} {f0 : List Int} {f1 : Int} {f2 : Bool} {α : Type} {d : Kd α} {e : Nat} {base : Nat} {ok : Nat → Prop} {v : Value} {xs : List α} (h : IsS113 As0 cs0 w0 W g f0 f1 f2) (ho : d.R e W base ok v xs) (ht : ∀ q, q ∈ e :: d.E → q ≠ 113) : d.R e W base (fun k => ok k ∧ k ≠ g) v xs := by
  obtain ⟨A0, c0, hb, hg, hr0⟩ := h
  exact Kd.zco ho hb ht
theorem IsS113.own_ne {w0 W : World} {g : Nat} {As0 : Option Addr} {cs0 : Nat} {f0 : List Int} {f1 : Int} {f2 : Bool} {α : Type} {d : Kd α} {e : Nat} {base : Nat} {ok : Nat → Prop} {v : Value} {xs : List α} (h : IsS113 As0 cs0 w0 W g f0 f1 f2) (ho : d.R e W base ok v xs) (ht : e ≠ 113) : some g ≠ v.ownBlock := by
  obtain ⟨A0, c0, hb, hg, hr0⟩ := h
  exact Kd.R_ne ho hb ht
theorem IsS113.lt {w0 W : World} {g : Nat} {As0 : Option Addr} {cs0 : Nat} {f0 : List Int} {f1 : Int} {f2 : Bool} (h : IsS113 As0 cs0 w0 W g f0 f1 f2) : g < W.heap.size := by
  obtain ⟨A0, c0, hb, hg, hr0⟩ := h
  exact zdp hb
theorem IsS113.ge {w0 W : World} {g : Nat} {As0 : Option Addr} {cs0 : Nat} {f0 : List Int} {f1 : Int} {f2 : Bool} (h : IsS113 As0 cs0 w0 W g f0 f1 f2) : w0.heap.size ≤ g := by
  obtain ⟨A0, c0, hb, hg, hr0⟩ := h
  exact hg
theorem IsS113.far {w0 W : World} {g : Nat} {As0 : Option Addr} {cs0 : Nat} {f0 : List Int} {f1 : Int} {f2 : Bool} {p : Addr} (h : IsS113 As0 cs0 w0 W g f0 f1 f2) (hne : g ≠ p.block) (u : Value) : IsS113 As0 cs0 w0 (W.setCell p u) g f0 f1 f2 := by
  obtain ⟨A0, c0, hb, hg, hr0⟩ := h
  exact ⟨A0, c0, zbi hb hne u, hg, hr0⟩
theorem zck {W : World} {g : Nat} {A0 : Option Addr} {c0 : Nat} {f0 : List Int} {f1 : Int} {f2 : Bool} (h : W.heap[g]? = some (.cells #[.slice A0 f0.length c0, .int .i64 f1, .bool f2] 113 (0, 0))) : W.cell? ⟨g, 0, none⟩ = some (.slice A0 f0.length c0) := (zaa h 0).trans rfl
theorem zcj {W : World} {g : Nat} {A0 : Option Addr} {c0 : Nat} {f0 : List Int} {f1 : Int} {f2 : Bool} (h : W.heap[g]? = some (.cells #[.slice A0 f0.length c0, .int .i64 f1, .bool f2] 113 (0, 0))) : W.cell? ⟨g, 1, none⟩ = some (.int .i64 f1) := (zaa h 1).trans rfl
theorem IsS113.zbx {w0 W : World} {g : Nat} {As0 : Option Addr} {cs0 : Nat} {f0 : List Int} {f1 : Int} {f2 : Bool} (h : IsS113 As0 cs0 w0 W g f0 f1 f2) (x : Int) : IsS113 As0 cs0 w0 (W.setCell ⟨g, 1, none⟩ (.int .i64 x)) g f0 x f2 := by
  obtain ⟨A0, c0, hb, hg, hr0⟩ := h
  exact ⟨A0, c0, by simpa using zdb hb 1 (.int .i64 x), hg, hr0⟩
theorem zcl {W : World} {g : Nat} {A0 : Option Addr} {c0 : Nat} {f0 : List Int} {f1 : Int} {f2 : Bool} (h : W.heap[g]? = some (.cells #[.slice A0 f0.length c0, .int .i64 f1, .bool f2] 113 (0, 0))) : W.cell? ⟨g, 2, none⟩ = some (.bool f2) := (zaa h 2).trans rfl
theorem IsS113.zbv {w0 W : World} {g : Nat} {As0 : Option Addr} {cs0 : Nat} {f0 : List Int} {f1 : Int} {f2 : Bool} (h : IsS113 As0 cs0 w0 W g f0 f1 f2) (x : Bool) : IsS113 As0 cs0 w0 (W.setCell ⟨g, 2, none⟩ (.bool x)) g f0 f1 x := by
  obtain ⟨A0, c0, hb, hg, hr0⟩ := h
  exact ⟨A0, c0, by simpa using zdb hb 2 (.bool x), hg, hr0⟩
def zcu.f (s0_0 : List Int) (s0_1 : Int) (s0_2 : Bool) : Option (Int × Int × Bool) := if s0_2 = true then (some (0, s0_1, true)) else (if s0_1 = (s0_0.length : Int) then (some (0, s0_1, true)) else (if 0 ≤ (wrap64 ((wrap64 (s0_1 + 1)) - 1)) then (if (wrap64 ((wrap64 (s0_1 + 1)) - 1)) < (s0_0.length : Int) then (some (rd s0_0 (wrap64 ((wrap64 (s0_1 + 1)) - 1)), wrap64 (s0_1 + 1), s0_2)) else (none)) else (none)))
set_option maxHeartbeats 8000000 in
set_option maxRecDepth 100000 in
theorem zcu.calls {As0 : Option Addr} {cs0 : Nat} (g : Nat) (s0_0 : List Int) (s0_1 : Int) (s0_2 : Bool) (r1 : Int) (r2 : Int) (r3 : Bool) (w0 w : World) (hI : IsS113 As0 cs0 w0 w g s0_0 s0_1 s0_2) (hB : Below w0.heap.size w0 w) (h : zcu.f s0_0 s0_1 s0_2 = some (r1, r2, r3)) :
    Calls Try.prog 60 #[.pointer (some ⟨g, 0, none⟩)] w fun e w' => e = .returned (.int .u8 r1) ∧ IsS113 As0 cs0 w0 w' g s0_0 r2 r3 ∧ Below w0.heap.size w0 w' ∧ KeepBut w w' g none := by
  have HI0 := Aside0.mk hI
  have HK := Aside0.mk (KeepBut.refl w g none)
  have HL := Aside0.mk hB.size
  clear hI
  have HW0 := Aside0.mk hB.size
  have HB := Aside0.mk hB
  clear hB
  have H : (if s0_2 = true then (some (0, s0_1, true)) else (if s0_1 = (s0_0.length : Int) then (some (0, s0_1, true)) else (if 0 ≤ (wrap64 ((wrap64 (s0_1 + 1)) - 1)) then (if (wrap64 ((wrap64 (s0_1 + 1)) - 1)) < (s0_0.length : Int) then (some (rd s0_0 (wrap64 ((wrap64 (s0_1 + 1)) - 1)), wrap64 (s0_1 + 1), s0_2)) else (none)) else (none)))) = some (r1, r2, r3) := h
  clear h
  by_cases c2 : s0_2 = true
  · subst c2
    have H1 : (some (0, s0_1, true)) = some (r1, r2, r3) := by rw [if_pos rfl] at H; exact H
    clear H
    have H := H1
    clear H1
    simp only [Option.some.injEq, Prod.mk.injEq] at H
    obtain ⟨rfl, rfl, rfl⟩ := H
    obtain ⟨ASz3_0, cSz3_0, HGz3, hgz3, ⟨HSz3_0, -, -, -⟩⟩ := HI0.out
    have hcz3_0 := zck HGz3
    have hcz3_1 := zcj HGz3
    have hcz3_2 := zcl HGz3
    have hfz3_1 := zab HGz3 1
    have hfz3_2 := zab HGz3 2
    clear HGz3 hgz3
    go_enter Try.func60, Try.ntmps60
    go_wp2
    repeat (go_quiet (fail); try go_wp2)
    go_ret
    exact ⟨by first | rfl | (simp [zay, zax] <;> rfl) | (simp [*, zay, zax] <;> rfl), by repeat (first | (with_reducible first | exact HI0.out | apply IsS113.alloc | apply IsS113.drewN | apply IsS113.drew | apply IsS113.zbx | apply IsS113.zbv) | exact HI0.out), by repeat (first | (with_reducible first | exact HB.out | apply zad | apply zac | apply zae | refine zah ?_ (IsS113.ge HI0.out)) | exact HB.out), by repeat (first | (with_reducible first | exact HK.out | apply KeepBut.set_ | apply zas | apply zav | apply zar) | exact HK.out)⟩
  · replace c2 := Bool.eq_false_iff.mpr c2
    subst c2
    have H1 : (if s0_1 = (s0_0.length : Int) then (some (0, s0_1, true)) else (if 0 ≤ (wrap64 ((wrap64 (s0_1 + 1)) - 1)) then (if (wrap64 ((wrap64 (s0_1 + 1)) - 1)) < (s0_0.length : Int) then (some (rd s0_0 (wrap64 ((wrap64 (s0_1 + 1)) - 1)), wrap64 (s0_1 + 1), false)) else (none)) else (none))) = some (r1, r2, r3) := by rw [if_neg (show ¬ (false = true) by decide)] at H; exact H
    clear H
    have H := H1
    clear H1
    by_cases c4 : s0_1 = (s0_0.length : Int)
    · rw [if_pos c4] at H
      have c4b0 : (s0_1 == (s0_0.length : Int)) = true := beq_iff_eq.mpr c4
      have c4b1 : (s0_1 != (s0_0.length : Int)) = false := bne_eq_false_iff_eq.mpr c4
      clear c4
      simp only [Option.some.injEq, Prod.mk.injEq] at H
      obtain ⟨rfl, rfl, rfl⟩ := H
      obtain ⟨ASz5_0, cSz5_0, HGz5, hgz5, ⟨HSz5_0, -, -, -⟩⟩ := HI0.out
      have hcz5_0 := zck HGz5
      have hcz5_1 := zcj HGz5
      have hcz5_2 := zcl HGz5
      have hfz5_1 := zab HGz5 1
      have hfz5_2 := zab HGz5 2
      clear HGz5 hgz5
      go_enter Try.func60, Try.ntmps60
      go_wp2
      repeat (go_quiet (fail); try go_wp2)
      go_ret
      exact ⟨by first | rfl | (simp [zay, zax] <;> rfl) | (simp [*, zay, zax] <;> rfl), by repeat (first | (with_reducible first | exact HI0.out | apply IsS113.alloc | apply IsS113.drewN | apply IsS113.drew | apply IsS113.zbx | apply IsS113.zbv) | exact HI0.out), by repeat (first | (with_reducible first | exact HB.out | apply zad | apply zac | apply zae | refine zah ?_ (IsS113.ge HI0.out)) | exact HB.out), by repeat (first | (with_reducible first | exact HK.out | apply KeepBut.set_ | apply zas | apply zav | apply zar) | exact HK.out)⟩
    · rw [if_neg c4] at H
      have c4b0 : (s0_1 == (s0_0.length : Int)) = false := beq_eq_false_iff_ne.mpr c4
      have c4b1 : (s0_1 != (s0_0.length : Int)) = true := bne_iff_ne.mpr c4
      obtain ⟨ji6, hji6⟩ : ∃ j_ : Int, (wrap64 ((wrap64 (s0_1 + 1)) - 1)) = j_ := ⟨_, rfl⟩
      replace H : (if 0 ≤ (ji6) then (if (ji6) < (s0_0.length : Int) then (some (rd s0_0 (ji6), wrap64 (s0_1 + 1), false)) else (none)) else (none)) = some (r1, r2, r3) := by first | (rw [hji6] at H; exact H) | (simp only [hji6] at H ⊢; exact H)
      have hji6w : (IntKind.i64.wrap ((wrap64 (s0_1 + 1)) - 1)) = ji6 := (zbz _).trans hji6
      by_cases c7 : 0 ≤ (ji6)
      · rw [if_pos c7] at H
        have c7b0 : decide (0 ≤ (ji6)) = true := decide_eq_true c7
        clear c7
        by_cases c8 : (ji6) < (s0_0.length : Int)
        · rw [if_pos c8] at H
          have c8b0 : decide ((ji6) < (s0_0.length : Int)) = true := decide_eq_true c8
          clear c8
          simp only [Option.some.injEq, Prod.mk.injEq] at H
          obtain ⟨rfl, rfl, rfl⟩ := H
          obtain ⟨ASz9_0, cSz9_0, HGz9, hgz9, ⟨HSz9_0, -, -, -⟩⟩ := HI0.out
          have hcz9_0 := zck HGz9
          have hcz9_1 := zcj HGz9
          have hcz9_2 := zcl HGz9
          have hfz9_1 := zab HGz9 1
          have hfz9_2 := zab HGz9 2
          clear HGz9 hgz9
          have p101 : 0 ≤ ((ji6) : Int) := of_decide_eq_true (by first | (with_reducible assumption) | assumption)
          have q101 : (ji6) < (s0_0.length : Int) := of_decide_eq_true (by first | (with_reducible assumption) | assumption)
          obtain ⟨ad101, e101, hx101_0⟩ := Kd.zfg HSz9_0 (ji6) p101 q101
          cases e101
          have hn101_0 : ad101.block ≠ g := Nat.ne_of_lt (Nat.lt_of_lt_of_le (by have := World.block_lt_of_cell? _ _ hx101_0; first | rwa [add_block] at this | exact this) (IsS113.ge HI0.out))
          replace hx101_0 := zdi HB.out hx101_0
          replace hx101_0 := (cell_far (p := ⟨g, 1, none⟩) (by first | (rw [add_block]; exact hn101_0) | (show (Addr.add _ _).block ≠ _; rw [add_block]; exact hn101_0) | exact hn101_0) (.int .i64 (wrap64 (s0_1 + 1)))).trans hx101_0
          (try have hy101_0 := fun (n_ : Nat) => (show (((w.drewN n_).setCell ⟨g, 1, none⟩ (.int .i64 (wrap64 (s0_1 + 1))))).cell? _ = some _ from hx101_0))
          clear hn101_0
          replace p101 := eq_true p101
          replace q101 := eq_true q101
          go_enter Try.func60, Try.ntmps60
          go_wp2
          repeat (go_quiet (fail); try go_wp2)
          go_ret
          exact ⟨by first | rfl | (simp [zay, zax] <;> rfl) | (simp only [← hji6]; first | rfl | (simp [zay, zax] <;> rfl)) | (simp [*, zay, zax] <;> rfl), by repeat (first | (with_reducible first | exact HI0.out | apply IsS113.alloc | apply IsS113.drewN | apply IsS113.drew | apply IsS113.zbx | apply IsS113.zbv) | exact HI0.out), by repeat (first | (with_reducible first | exact HB.out | apply zad | apply zac | apply zae | refine zah ?_ (IsS113.ge HI0.out)) | exact HB.out), by repeat (first | (with_reducible first | exact HK.out | apply KeepBut.set_ | apply zas | apply zav | apply zar) | exact HK.out)⟩
        · rw [if_neg c8] at H
          exact absurd H (by simp)
      · rw [if_neg c7] at H
        exact absurd H (by simp)
mutual
def zan.j0 : Nat → Bool → List Int → Int → Bool → Option (Int × Int × Bool)
  | 0, _, _, _, _ => none
  | k + 1, x21, x1000, x1001, x1002 => if x21 = true then (some (0, x1001, true)) else (zan.l0 k 0 0 x1000 x1001 x1002)
def zan.l0 : Nat → Int → Int → List Int → Int → Bool → Option (Int × Int × Bool)
  | 0, _, _, _, _, _ => none
  | k + 1, x3, x4, x1000, x1001, x1002 => if x4 < 8 then (if 0 ≤ (wrap64 (x1001 + x4)) then (if (wrap64 (x1001 + x4)) < (x1000.length : Int) then (zan.l0 k (IntKind.u64.wrap ((IntKind.u64.wrap (256 * x3)) + (IntKind.u64.wrap (rd x1000 (wrap64 (x1001 + x4)))))) (wrap64 (x4 + 1)) x1000 x1001 x1002) else (none)) else (none)) else (some (x3, wrap64 (x1001 + 8), x1002))
end
def zan.f (k : Nat) (s0_0 : List Int) (s0_1 : Int) (s0_2 : Bool) : Option (Int × Int × Bool) := if s0_2 = true then (zan.j0 k true s0_0 s0_1 s0_2) else (zan.j0 k (decide ((wrap64 ((s0_0.length : Int) - s0_1)) < 8)) s0_0 s0_1 s0_2)
set_option maxHeartbeats 8000000 in
set_option maxRecDepth 100000 in
theorem zan.calls (k : Nat) {As0 : Option Addr} {cs0 : Nat} (g : Nat) (s0_0 : List Int) (s0_1 : Int) (s0_2 : Bool) (r1 : Int) (r2 : Int) (r3 : Bool) (w0 w : World) (hI : IsS113 As0 cs0 w0 w g s0_0 s0_1 s0_2) (hB : Below w0.heap.size w0 w) (h : zan.f k s0_0 s0_1 s0_2 = some (r1, r2, r3)) :
    Calls Try.prog 69 #[.pointer (some ⟨g, 0, none⟩)] w fun e w' => e = .returned (.int .u64 r1) ∧ IsS113 As0 cs0 w0 w' g s0_0 r2 r3 ∧ Below w0.heap.size w0 w' ∧ KeepBut w w' g none := by
  have HI0 := Aside0.mk hI
  have HK := Aside0.mk (KeepBut.refl w g none)
  have HL := Aside0.mk hB.size
  clear hI
  have HW0 := Aside0.mk hB.size
  have HB := Aside0.mk hB
  clear hB
  have H : (if s0_2 = true then (zan.j0 k true s0_0 s0_1 s0_2) else (zan.j0 k (decide ((wrap64 ((s0_0.length : Int) - s0_1)) < 8)) s0_0 s0_1 s0_2)) = some (r1, r2, r3) := h
  clear h
  have HC2 := Aside0.mk H
  clear H
  go_enter Try.func69, Try.ntmps69
  go_upto_region 1 with (fail)
  repeat (go_quiet (fail); go_upto_region 1 with (fail))
  go_cut [21] (fun v21 wc => ∃ (kq : Nat) (x21_1 : Bool), v21 = .bool x21_1 ∧ Aside0 (zan.j0 kq x21_1 s0_0 s0_1 s0_2 = some (r1, r2, r3)) ∧ Aside0 (kq ≤ k) ∧ Aside0 (IsS113 As0 cs0 w0 wc g s0_0 s0_1 s0_2) ∧ Aside0 (KeepBut w wc g none) ∧ Aside0 (Below w0.heap.size w0 wc))
  case first =>
    have H := HC2.out
    clear HC2
    by_cases c3 : s0_2 = true
    · subst c3
      have H1 : (zan.j0 k true s0_0 s0_1 true) = some (r1, r2, r3) := by rw [if_pos rfl] at H; exact H
      clear H
      have H := H1
      clear H1
      have H' := Aside0.mk H
      clear H
      obtain ⟨ASz4_0, cSz4_0, HGz4, hgz4, ⟨HSz4_0, -, -, -⟩⟩ := HI0.out
      have hcz4_0 := zck HGz4
      have hcz4_1 := zcj HGz4
      have hcz4_2 := zcl HGz4
      have hfz4_1 := zab HGz4 1
      have hfz4_2 := zab HGz4 2
      clear HGz4 hgz4
      go_wp2
      repeat (go_quiet (fail); try go_wp2)
      go_meet
      case rel => exact ⟨_, (true), (by first | rfl | (simp; done) | (simp [*]; done)), H', ⟨by first | omega | exact Nat.le_refl _⟩, ⟨by repeat (first | (with_reducible first | exact HI0.out | apply IsS113.alloc | apply IsS113.drewN | apply IsS113.drew | apply IsS113.zbx | apply IsS113.zbv) | exact HI0.out)⟩, ⟨by repeat (first | (with_reducible first | exact HK.out | apply KeepBut.set_ | apply zas | apply zav | apply zar) | exact HK.out)⟩, ⟨by repeat (first | (with_reducible first | exact HB.out | apply zad | apply zac | apply zae | refine zah ?_ (IsS113.ge HI0.out)) | exact HB.out)⟩⟩
    · replace c3 := Bool.eq_false_iff.mpr c3
      subst c3
      have H1 : (zan.j0 k (decide ((wrap64 ((s0_0.length : Int) - s0_1)) < 8)) s0_0 s0_1 false) = some (r1, r2, r3) := by rw [if_neg (show ¬ (false = true) by decide)] at H; exact H
      clear H
      have H := H1
      clear H1
      have H' := Aside0.mk H
      clear H
      obtain ⟨ASz5_0, cSz5_0, HGz5, hgz5, ⟨HSz5_0, -, -, -⟩⟩ := HI0.out
      have hcz5_0 := zck HGz5
      have hcz5_1 := zcj HGz5
      have hcz5_2 := zcl HGz5
      have hfz5_1 := zab HGz5 1
      have hfz5_2 := zab HGz5 2
      clear HGz5 hgz5
      go_wp2
      repeat (go_quiet (fail); try go_wp2)
      go_meet
      case rel => exact ⟨_, (decide ((wrap64 ((s0_0.length : Int) - s0_1)) < 8)), (by first | rfl | (simp; done) | (simp [*]; done)), H', ⟨by first | omega | exact Nat.le_refl _⟩, ⟨by repeat (first | (with_reducible first | exact HI0.out | apply IsS113.alloc | apply IsS113.drewN | apply IsS113.drew | apply IsS113.zbx | apply IsS113.zbv) | exact HI0.out)⟩, ⟨by repeat (first | (with_reducible first | exact HK.out | apply KeepBut.set_ | apply zas | apply zav | apply zar) | exact HK.out)⟩, ⟨by repeat (first | (with_reducible first | exact HB.out | apply zad | apply zac | apply zae | refine zah ?_ (IsS113.ge HI0.out)) | exact HB.out)⟩⟩
  case rest =>
    clear HC2
    try clear p2
    try clear c3
    try clear hcz4_0
    try clear hcz4_1
    try clear hcz4_2
    try clear hcz5_0
    try clear hcz5_1
    try clear hcz5_2
    try clear hfz4_1
    try clear hfz4_2
    try clear hfz5_1
    try clear hfz5_2
    obtain ⟨kq, x21_1, rfl, HA, HJ1, HI0, HK, HB⟩ := hcut
    cases kq with
    | zero => exact absurd HA.out (by simp [zan.j0])
    | succ kj1 =>
      have H := HA.out
      clear HA
      simp only [zan.j0] at H
      by_cases c6 : x21_1 = true
      · subst c6
        have H1 : (some (0, s0_1, true)) = some (r1, r2, r3) := by rw [if_pos rfl] at H; exact H
        clear H
        have H := H1
        clear H1
        simp only [Option.some.injEq, Prod.mk.injEq] at H
        obtain ⟨rfl, rfl, rfl⟩ := H
        obtain ⟨ASz7_0, cSz7_0, HGz7, hgz7, ⟨HSz7_0, -, -, -⟩⟩ := HI0.out
        have hcz7_0 := zck HGz7
        have hcz7_1 := zcj HGz7
        have hcz7_2 := zcl HGz7
        have hfz7_1 := zab HGz7 1
        have hfz7_2 := zab HGz7 2
        clear HGz7 hgz7
        go_wp2
        repeat (go_quiet (fail); try go_wp2)
        go_ret
        exact ⟨by first | rfl | (simp [zay, zax] <;> rfl) | (simp [*, zay, zax] <;> rfl), by repeat (first | (with_reducible first | exact HI0.out | apply IsS113.alloc | apply IsS113.drewN | apply IsS113.drew | apply IsS113.zbx | apply IsS113.zbv) | exact HI0.out), by repeat (first | (with_reducible first | exact HB.out | apply zad | apply zac | apply zae | refine zah ?_ (IsS113.ge HI0.out)) | exact HB.out), by repeat (first | (with_reducible first | exact HK.out | apply KeepBut.set_ | apply zas | apply zav | apply zar) | exact HK.out)⟩
      · replace c6 := Bool.eq_false_iff.mpr c6
        subst c6
        have H1 : (zan.l0 kj1 0 0 s0_0 s0_1 s0_2) = some (r1, r2, r3) := by rw [if_neg (show ¬ (false = true) by decide)] at H; exact H
        clear H
        have H := H1
        clear H1
        have H' := Aside0.mk H
        clear H
        go_wp2
        repeat (go_quiet (fail); try go_wp2)
        go_loopg [3, 4] kj1 (fun kq v3 v4 w' => ∃ (x3_2 : Int) (x4_2 : Int), v3 = .int .u64 x3_2 ∧ v4 = .int .i64 x4_2 ∧ Aside0 (zan.l0 kq x3_2 x4_2 s0_0 s0_1 s0_2 = some (r1, r2, r3)) ∧ Aside0 (kq ≤ kj1) ∧ Aside0 (IsS113 As0 cs0 w0 w' g s0_0 s0_1 s0_2) ∧ Aside0 (KeepBut w w' g none) ∧ Aside0 (Below w0.heap.size w0 w'))
        case atStart => exact ⟨(0), (0), (by first | rfl | (simp; done) | (simp [*]; done)), (by first | rfl | (simp; done) | (simp [*]; done)), H', ⟨Nat.le_refl _⟩, ⟨by repeat (first | (with_reducible first | exact HI0.out | apply IsS113.alloc | apply IsS113.drewN | apply IsS113.drew | apply IsS113.zbx | apply IsS113.zbv) | exact HI0.out)⟩, ⟨by repeat (first | (with_reducible first | exact HK.out | apply KeepBut.set_ | apply zas | apply zav | apply zar) | exact HK.out)⟩, ⟨by repeat (first | (with_reducible first | exact HB.out | apply zad | apply zac | apply zae | refine zah ?_ (IsS113.ge HI0.out)) | exact HB.out)⟩⟩
        case round =>
          clear H'
          try clear p2
          try clear c3
          try clear c6
          try clear p6
          try clear hcz4_0
          try clear hcz4_1
          try clear hcz4_2
          try clear hcz5_0
          try clear hcz5_1
          try clear hcz5_2
          try clear hcz7_0
          try clear hcz7_1
          try clear hcz7_2
          try clear hfz4_1
          try clear hfz4_2
          try clear hfz5_1
          try clear hfz5_2
          try clear hfz7_1
          try clear hfz7_2
          try clear p2
          obtain ⟨x3_2, x4_2, rfl, rfl, HA, HK2, HI0, HK, HB⟩ := hrel
          cases gk with
          | zero => exact absurd HA.out (by simp [zan.l0])
          | succ k2 =>
            have H := HA.out
            clear HA
            simp only [zan.l0] at H
            by_cases c8 : x4_2 < 8
            · rw [if_pos c8] at H
              have c8b0 : decide (x4_2 < 8) = true := decide_eq_true c8
              clear c8
              obtain ⟨ji9, hji9⟩ : ∃ j_ : Int, (wrap64 (s0_1 + x4_2)) = j_ := ⟨_, rfl⟩
              replace H : (if 0 ≤ (ji9) then (if (ji9) < (s0_0.length : Int) then (zan.l0 k2 (IntKind.u64.wrap ((IntKind.u64.wrap (256 * x3_2)) + (IntKind.u64.wrap (rd s0_0 (ji9))))) (wrap64 (x4_2 + 1)) s0_0 s0_1 s0_2) else (none)) else (none)) = some (r1, r2, r3) := by first | (rw [hji9] at H; exact H) | (simp only [hji9] at H ⊢; exact H)
              have hji9w : (IntKind.i64.wrap (s0_1 + x4_2)) = ji9 := (zbz _).trans hji9
              by_cases c10 : 0 ≤ (ji9)
              · rw [if_pos c10] at H
                have c10b0 : decide (0 ≤ (ji9)) = true := decide_eq_true c10
                clear c10
                by_cases c11 : (ji9) < (s0_0.length : Int)
                · rw [if_pos c11] at H
                  have c11b0 : decide ((ji9) < (s0_0.length : Int)) = true := decide_eq_true c11
                  clear c11
                  have H' := Aside0.mk H
                  clear H
                  obtain ⟨ASz12_0, cSz12_0, HGz12, hgz12, ⟨HSz12_0, -, -, -⟩⟩ := HI0.out
                  have hcz12_0 := zck HGz12
                  have hcz12_1 := zcj HGz12
                  have hcz12_2 := zcl HGz12
                  have hfz12_1 := zab HGz12 1
                  have hfz12_2 := zab HGz12 2
                  clear HGz12 hgz12
                  have p102 : 0 ≤ ((ji9) : Int) := of_decide_eq_true (by first | (with_reducible assumption) | assumption)
                  have q102 : (ji9) < (s0_0.length : Int) := of_decide_eq_true (by first | (with_reducible assumption) | assumption)
                  obtain ⟨ad102, e102, hx102_0⟩ := Kd.zfg HSz12_0 (ji9) p102 q102
                  cases e102
                  replace hx102_0 := zdi HB.out hx102_0
                  replace p102 := eq_true p102
                  replace q102 := eq_true q102
                  go_wp2
                  repeat (go_quiet (fail); try go_wp2)
                  go_roundg k2
                  case measure => have := HJ1.out; have := HK2.out; omega
                  case rel => exact ⟨(IntKind.u64.wrap ((IntKind.u64.wrap (256 * x3_2)) + (IntKind.u64.wrap (rd s0_0 (ji9))))), (wrap64 (x4_2 + 1)), (by first | rfl | (simp; done) | (simp only [← hji9] <;> (first | rfl | simp)) | (simp [*]; done)), (by first | rfl | (simp; done) | (simp [*]; done)), H', ⟨by have := HJ1.out; have := HK2.out; omega⟩, ⟨by repeat (first | (with_reducible first | exact HI0.out | apply IsS113.alloc | apply IsS113.drewN | apply IsS113.drew | apply IsS113.zbx | apply IsS113.zbv) | exact HI0.out)⟩, ⟨by repeat (first | (with_reducible first | exact HK.out | apply KeepBut.set_ | apply zas | apply zav | apply zar) | exact HK.out)⟩, ⟨by repeat (first | (with_reducible first | exact HB.out | apply zad | apply zac | apply zae | refine zah ?_ (IsS113.ge HI0.out)) | exact HB.out)⟩⟩
                · rw [if_neg c11] at H
                  exact absurd H (by simp)
              · rw [if_neg c10] at H
                exact absurd H (by simp)
            · rw [if_neg c8] at H
              have c8b0 : decide (x4_2 < 8) = false := decide_eq_false c8
              clear c8
              simp only [Option.some.injEq, Prod.mk.injEq] at H
              obtain ⟨rfl, rfl, rfl⟩ := H
              obtain ⟨ASz13_0, cSz13_0, HGz13, hgz13, ⟨HSz13_0, -, -, -⟩⟩ := HI0.out
              have hcz13_0 := zck HGz13
              have hcz13_1 := zcj HGz13
              have hcz13_2 := zcl HGz13
              have hfz13_1 := zab HGz13 1
              have hfz13_2 := zab HGz13 2
              clear HGz13 hgz13
              go_wp2
              repeat (go_quiet (fail); try go_wp2)
              go_ret
              exact ⟨by first | rfl | (simp [zay, zax] <;> rfl) | (simp [*, zay, zax] <;> rfl), by repeat (first | (with_reducible first | exact HI0.out | apply IsS113.alloc | apply IsS113.drewN | apply IsS113.drew | apply IsS113.zbx | apply IsS113.zbv) | exact HI0.out), by repeat (first | (with_reducible first | exact HB.out | apply zad | apply zac | apply zae | refine zah ?_ (IsS113.ge HI0.out)) | exact HB.out), by repeat (first | (with_reducible first | exact HK.out | apply KeepBut.set_ | apply zas | apply zav | apply zar) | exact HK.out)⟩
def zcx.f (k : Nat) (s0_0 : List Int) (s0_1 : Int) (s0_2 : Bool) : Option (Int × Int × Bool) := (zan.f k s0_0 s0_1 s0_2).bind fun bt103 => (some (wrap64 (bt103.1), bt103.2.1, bt103.2.2))
set_option maxHeartbeats 8000000 in
set_option maxRecDepth 100000 in
theorem zcx.calls (k : Nat) {As0 : Option Addr} {cs0 : Nat} (g : Nat) (s0_0 : List Int) (s0_1 : Int) (s0_2 : Bool) (r1 : Int) (r2 : Int) (r3 : Bool) (w0 w : World) (hI : IsS113 As0 cs0 w0 w g s0_0 s0_1 s0_2) (hB : Below w0.heap.size w0 w) (h : zcx.f k s0_0 s0_1 s0_2 = some (r1, r2, r3)) :
    Calls Try.prog 61 #[.pointer (some ⟨g, 0, none⟩)] w fun e w' => e = .returned (.int .i64 r1) ∧ IsS113 As0 cs0 w0 w' g s0_0 r2 r3 ∧ Below w0.heap.size w0 w' ∧ KeepBut w w' g none := by
  have HI0 := Aside0.mk hI
  have HK := Aside0.mk (KeepBut.refl w g none)
  have HL := Aside0.mk hB.size
  clear hI
  have HW0 := Aside0.mk hB.size
  have HB := Aside0.mk hB
  clear hB
  have H : ((zan.f k s0_0 s0_1 s0_2).bind fun bt103 => (some (wrap64 (bt103.1), bt103.2.1, bt103.2.2))) = some (r1, r2, r3) := h
  clear h
  replace H := Option.bind_eq_some_iff.mp H
  obtain ⟨⟨t103, t104, t105⟩, A20, H⟩ := H
  replace H : (some (wrap64 (t103), t104, t105)) = some (r1, r2, r3) := H
  have A2 := Aside0.mk A20
  clear A20
  simp only [Option.some.injEq, Prod.mk.injEq] at H
  obtain ⟨rfl, rfl, rfl⟩ := H
  go_enter Try.func61, Try.ntmps61
  go_wp2_with (first | ((with_reducible refine zbe (f := 69) rfl ?_); refine zcg (some 4) rfl rfl Try.func69 (by kernel_rfl) rfl #[.pointer (some ⟨g, 0, none⟩)] rfl (by (try simp only [List.map_toArray, List.map_cons, List.map_nil]); first | done | rfl | (simp only [List.length_drop, List.length_take]; rfl)) ?_; (with_reducible refine (zan.calls k (As0 := As0) (cs0 := cs0) g s0_0 s0_1 s0_2 t103 t104 t105 w0 _ ?side1 ?side2 A2.out).mono ?_); (case side1 => repeat (first | (with_reducible first | exact HI0.out | apply IsS113.alloc | apply IsS113.drewN | apply IsS113.drew | apply IsS113.zbx | apply IsS113.zbv) | exact HI0.out)); (case side2 => repeat (first | (with_reducible first | exact HB.out | apply zad | apply zac | apply zae | refine zah ?_ (IsS113.ge HI0.out)) | exact HB.out)); rintro e w3 ⟨rfl, hi, hb, hk⟩; refine ⟨_, rfl, ?_⟩; have n0_ := Aside0.mk (KeepBut.trans (by repeat (first | (with_reducible first | exact HK.out | apply KeepBut.set_ | apply zas | apply zav | apply zar) | exact HK.out)) hk (.inl rfl)); have n1_ := Aside0.mk (hb); have n2_ := Aside0.mk (hi); clear HK; clear HB; clear HI0; have HK := n0_; have HB := n1_; have HI0 := n2_; clear n0_ n1_ n2_; (try clear hb); (try clear hb2); (try clear hk); (try clear hi)))
  go_ret
  exact ⟨by first | rfl | (simp [zay, zax] <;> rfl) | (simp [*, zay, zax] <;> rfl), by repeat (first | (with_reducible first | exact HI0.out | apply IsS113.alloc | apply IsS113.drewN | apply IsS113.drew | apply IsS113.zbx | apply IsS113.zbv) | exact HI0.out), by repeat (first | (with_reducible first | exact HB.out | apply zad | apply zac | apply zae | refine zah ?_ (IsS113.ge HI0.out)) | exact HB.out), by repeat (first | (with_reducible first | exact HK.out | apply KeepBut.set_ | apply zas | apply zav | apply zar) | exact HK.out)⟩
def zcs.f (k : Nat) (s0_0 : List Int) (s0_1 : Int) (s0_2 : Bool) : Option (Int × Int × Bool) := (zan.f k s0_0 s0_1 s0_2).bind fun bt106 => (if bt106.2.2 = true then (some (0, bt106.2.1, true)) else (if (IntKind.u64.wrap (wrap64 ((s0_0.length : Int) - bt106.2.1))) < bt106.1 then (some (0, bt106.2.1, true)) else (some (wrap64 (bt106.1), bt106.2.1, bt106.2.2))))
set_option maxHeartbeats 8000000 in
set_option maxRecDepth 100000 in
theorem zcs.calls (k : Nat) {As0 : Option Addr} {cs0 : Nat} (g : Nat) (s0_0 : List Int) (s0_1 : Int) (s0_2 : Bool) (r1 : Int) (r2 : Int) (r3 : Bool) (w0 w : World) (hI : IsS113 As0 cs0 w0 w g s0_0 s0_1 s0_2) (hB : Below w0.heap.size w0 w) (h : zcs.f k s0_0 s0_1 s0_2 = some (r1, r2, r3)) :
    Calls Try.prog 62 #[.pointer (some ⟨g, 0, none⟩)] w fun e w' => e = .returned (.int .i64 r1) ∧ IsS113 As0 cs0 w0 w' g s0_0 r2 r3 ∧ Below w0.heap.size w0 w' ∧ KeepBut w w' g none := by
  have HI0 := Aside0.mk hI
  have HK := Aside0.mk (KeepBut.refl w g none)
  have HL := Aside0.mk hB.size
  clear hI
  have HW0 := Aside0.mk hB.size
  have HB := Aside0.mk hB
  clear hB
  have H : ((zan.f k s0_0 s0_1 s0_2).bind fun bt106 => (if bt106.2.2 = true then (some (0, bt106.2.1, true)) else (if (IntKind.u64.wrap (wrap64 ((s0_0.length : Int) - bt106.2.1))) < bt106.1 then (some (0, bt106.2.1, true)) else (some (wrap64 (bt106.1), bt106.2.1, bt106.2.2))))) = some (r1, r2, r3) := h
  clear h
  replace H := Option.bind_eq_some_iff.mp H
  obtain ⟨⟨t106, t107, t108⟩, A20, H⟩ := H
  replace H : (if t108 = true then (some (0, t107, true)) else (if (IntKind.u64.wrap (wrap64 ((s0_0.length : Int) - t107))) < t106 then (some (0, t107, true)) else (some (wrap64 (t106), t107, t108)))) = some (r1, r2, r3) := H
  have A2 := Aside0.mk A20
  clear A20
  by_cases c3 : t108 = true
  · subst c3
    have H1 : (some (0, t107, true)) = some (r1, r2, r3) := by rw [if_pos rfl] at H; exact H
    clear H
    have H := H1
    clear H1
    simp only [Option.some.injEq, Prod.mk.injEq] at H
    obtain ⟨rfl, rfl, rfl⟩ := H
    go_enter Try.func62, Try.ntmps62
    go_wp2_with (first | (go_at_call 69; (with_reducible refine (zan.calls k (As0 := As0) (cs0 := cs0) g s0_0 s0_1 s0_2 t106 t107 true w0 _ ?side1 ?side2 A2.out).mono ?_); (case side1 => repeat (first | (with_reducible first | exact HI0.out | apply IsS113.alloc | apply IsS113.drewN | apply IsS113.drew | apply IsS113.zbx | apply IsS113.zbv) | exact HI0.out)); (case side2 => repeat (first | (with_reducible first | exact HB.out | apply zad | apply zac | apply zae | refine zah ?_ (IsS113.ge HI0.out)) | exact HB.out)); rintro e w4 ⟨rfl, hi, hb, hk⟩; have n0_ := Aside0.mk (KeepBut.trans (by repeat (first | (with_reducible first | exact HK.out | apply KeepBut.set_ | apply zas | apply zav | apply zar) | exact HK.out)) hk (.inl rfl)); have n1_ := Aside0.mk (hb); have n2_ := Aside0.mk (hi); clear HK; clear HB; clear HI0; have HK := n0_; have HB := n1_; have HI0 := n2_; clear n0_ n1_ n2_; (try clear hb); (try clear hb2); (try clear hk); (try clear hi); obtain ⟨ASz5_0, cSz5_0, HGz5, hgz5, ⟨HSz5_0, -, -, -⟩⟩ := HI0.out; have hcz5_0 := zck HGz5; have hcz5_1 := zcj HGz5; have hcz5_2 := zcl HGz5; have hfz5_1 := zab HGz5 1; have hfz5_2 := zab HGz5 2; clear HGz5 hgz5))
    repeat (go_quiet (first | (go_at_call 69; (with_reducible refine (zan.calls k (As0 := As0) (cs0 := cs0) g s0_0 s0_1 s0_2 t106 t107 true w0 _ ?side1 ?side2 A2.out).mono ?_); (case side1 => repeat (first | (with_reducible first | exact HI0.out | apply IsS113.alloc | apply IsS113.drewN | apply IsS113.drew | apply IsS113.zbx | apply IsS113.zbv) | exact HI0.out)); (case side2 => repeat (first | (with_reducible first | exact HB.out | apply zad | apply zac | apply zae | refine zah ?_ (IsS113.ge HI0.out)) | exact HB.out)); rintro e w4 ⟨rfl, hi, hb, hk⟩; have n0_ := Aside0.mk (KeepBut.trans (by repeat (first | (with_reducible first | exact HK.out | apply KeepBut.set_ | apply zas | apply zav | apply zar) | exact HK.out)) hk (.inl rfl)); have n1_ := Aside0.mk (hb); have n2_ := Aside0.mk (hi); clear HK; clear HB; clear HI0; have HK := n0_; have HB := n1_; have HI0 := n2_; clear n0_ n1_ n2_; (try clear hb); (try clear hb2); (try clear hk); (try clear hi); obtain ⟨ASz5_0, cSz5_0, HGz5, hgz5, ⟨HSz5_0, -, -, -⟩⟩ := HI0.out; have hcz5_0 := zck HGz5; have hcz5_1 := zcj HGz5; have hcz5_2 := zcl HGz5; have hfz5_1 := zab HGz5 1; have hfz5_2 := zab HGz5 2; clear HGz5 hgz5)); try go_wp2_with (first | (go_at_call 69; (with_reducible refine (zan.calls k (As0 := As0) (cs0 := cs0) g s0_0 s0_1 s0_2 t106 t107 true w0 _ ?side1 ?side2 A2.out).mono ?_); (case side1 => repeat (first | (with_reducible first | exact HI0.out | apply IsS113.alloc | apply IsS113.drewN | apply IsS113.drew | apply IsS113.zbx | apply IsS113.zbv) | exact HI0.out)); (case side2 => repeat (first | (with_reducible first | exact HB.out | apply zad | apply zac | apply zae | refine zah ?_ (IsS113.ge HI0.out)) | exact HB.out)); rintro e w4 ⟨rfl, hi, hb, hk⟩; have n0_ := Aside0.mk (KeepBut.trans (by repeat (first | (with_reducible first | exact HK.out | apply KeepBut.set_ | apply zas | apply zav | apply zar) | exact HK.out)) hk (.inl rfl)); have n1_ := Aside0.mk (hb); have n2_ := Aside0.mk (hi); clear HK; clear HB; clear HI0; have HK := n0_; have HB := n1_; have HI0 := n2_; clear n0_ n1_ n2_; (try clear hb); (try clear hb2); (try clear hk); (try clear hi); obtain ⟨ASz5_0, cSz5_0, HGz5, hgz5, ⟨HSz5_0, -, -, -⟩⟩ := HI0.out; have hcz5_0 := zck HGz5; have hcz5_1 := zcj HGz5; have hcz5_2 := zcl HGz5; have hfz5_1 := zab HGz5 1; have hfz5_2 := zab HGz5 2; clear HGz5 hgz5)))
    go_ret
    exact ⟨by first | rfl | (simp [zay, zax] <;> rfl) | (simp [*, zay, zax] <;> rfl), by repeat (first | (with_reducible first | exact HI0.out | apply IsS113.alloc | apply IsS113.drewN | apply IsS113.drew | apply IsS113.zbx | apply IsS113.zbv) | exact HI0.out), by repeat (first | (with_reducible first | exact HB.out | apply zad | apply zac | apply zae | refine zah ?_ (IsS113.ge HI0.out)) | exact HB.out), by repeat (first | (with_reducible first | exact HK.out | apply KeepBut.set_ | apply zas | apply zav | apply zar) | exact HK.out)⟩
  · replace c3 := Bool.eq_false_iff.mpr c3
    subst c3
    have H1 : (if (IntKind.u64.wrap (wrap64 ((s0_0.length : Int) - t107))) < t106 then (some (0, t107, true)) else (some (wrap64 (t106), t107, false))) = some (r1, r2, r3) := by rw [if_neg (show ¬ (false = true) by decide)] at H; exact H
    clear H
    have H := H1
    clear H1
    by_cases c6 : (IntKind.u64.wrap (wrap64 ((s0_0.length : Int) - t107))) < t106
    · rw [if_pos c6] at H
      have c6b0 : decide ((IntKind.u64.wrap (wrap64 ((s0_0.length : Int) - t107))) < t106) = true := decide_eq_true c6
      clear c6
      simp only [Option.some.injEq, Prod.mk.injEq] at H
      obtain ⟨rfl, rfl, rfl⟩ := H
      go_enter Try.func62, Try.ntmps62
      go_wp2_with (first | (go_at_call 69; (with_reducible refine (zan.calls k (As0 := As0) (cs0 := cs0) g s0_0 s0_1 s0_2 t106 t107 false w0 _ ?side1 ?side2 A2.out).mono ?_); (case side1 => repeat (first | (with_reducible first | exact HI0.out | apply IsS113.alloc | apply IsS113.drewN | apply IsS113.drew | apply IsS113.zbx | apply IsS113.zbv) | exact HI0.out)); (case side2 => repeat (first | (with_reducible first | exact HB.out | apply zad | apply zac | apply zae | refine zah ?_ (IsS113.ge HI0.out)) | exact HB.out)); rintro e w7 ⟨rfl, hi, hb, hk⟩; have n0_ := Aside0.mk (KeepBut.trans (by repeat (first | (with_reducible first | exact HK.out | apply KeepBut.set_ | apply zas | apply zav | apply zar) | exact HK.out)) hk (.inl rfl)); have n1_ := Aside0.mk (hb); have n2_ := Aside0.mk (hi); clear HK; clear HB; clear HI0; have HK := n0_; have HB := n1_; have HI0 := n2_; clear n0_ n1_ n2_; (try clear hb); (try clear hb2); (try clear hk); (try clear hi); obtain ⟨ASz8_0, cSz8_0, HGz8, hgz8, ⟨HSz8_0, -, -, -⟩⟩ := HI0.out; have hcz8_0 := zck HGz8; have hcz8_1 := zcj HGz8; have hcz8_2 := zcl HGz8; have hfz8_1 := zab HGz8 1; have hfz8_2 := zab HGz8 2; clear HGz8 hgz8))
      repeat (go_quiet (first | (go_at_call 69; (with_reducible refine (zan.calls k (As0 := As0) (cs0 := cs0) g s0_0 s0_1 s0_2 t106 t107 false w0 _ ?side1 ?side2 A2.out).mono ?_); (case side1 => repeat (first | (with_reducible first | exact HI0.out | apply IsS113.alloc | apply IsS113.drewN | apply IsS113.drew | apply IsS113.zbx | apply IsS113.zbv) | exact HI0.out)); (case side2 => repeat (first | (with_reducible first | exact HB.out | apply zad | apply zac | apply zae | refine zah ?_ (IsS113.ge HI0.out)) | exact HB.out)); rintro e w7 ⟨rfl, hi, hb, hk⟩; have n0_ := Aside0.mk (KeepBut.trans (by repeat (first | (with_reducible first | exact HK.out | apply KeepBut.set_ | apply zas | apply zav | apply zar) | exact HK.out)) hk (.inl rfl)); have n1_ := Aside0.mk (hb); have n2_ := Aside0.mk (hi); clear HK; clear HB; clear HI0; have HK := n0_; have HB := n1_; have HI0 := n2_; clear n0_ n1_ n2_; (try clear hb); (try clear hb2); (try clear hk); (try clear hi); obtain ⟨ASz8_0, cSz8_0, HGz8, hgz8, ⟨HSz8_0, -, -, -⟩⟩ := HI0.out; have hcz8_0 := zck HGz8; have hcz8_1 := zcj HGz8; have hcz8_2 := zcl HGz8; have hfz8_1 := zab HGz8 1; have hfz8_2 := zab HGz8 2; clear HGz8 hgz8)); try go_wp2_with (first | (go_at_call 69; (with_reducible refine (zan.calls k (As0 := As0) (cs0 := cs0) g s0_0 s0_1 s0_2 t106 t107 false w0 _ ?side1 ?side2 A2.out).mono ?_); (case side1 => repeat (first | (with_reducible first | exact HI0.out | apply IsS113.alloc | apply IsS113.drewN | apply IsS113.drew | apply IsS113.zbx | apply IsS113.zbv) | exact HI0.out)); (case side2 => repeat (first | (with_reducible first | exact HB.out | apply zad | apply zac | apply zae | refine zah ?_ (IsS113.ge HI0.out)) | exact HB.out)); rintro e w7 ⟨rfl, hi, hb, hk⟩; have n0_ := Aside0.mk (KeepBut.trans (by repeat (first | (with_reducible first | exact HK.out | apply KeepBut.set_ | apply zas | apply zav | apply zar) | exact HK.out)) hk (.inl rfl)); have n1_ := Aside0.mk (hb); have n2_ := Aside0.mk (hi); clear HK; clear HB; clear HI0; have HK := n0_; have HB := n1_; have HI0 := n2_; clear n0_ n1_ n2_; (try clear hb); (try clear hb2); (try clear hk); (try clear hi); obtain ⟨ASz8_0, cSz8_0, HGz8, hgz8, ⟨HSz8_0, -, -, -⟩⟩ := HI0.out; have hcz8_0 := zck HGz8; have hcz8_1 := zcj HGz8; have hcz8_2 := zcl HGz8; have hfz8_1 := zab HGz8 1; have hfz8_2 := zab HGz8 2; clear HGz8 hgz8)))
      go_ret
      exact ⟨by first | rfl | (simp [zay, zax] <;> rfl) | (simp [*, zay, zax] <;> rfl), by repeat (first | (with_reducible first | exact HI0.out | apply IsS113.alloc | apply IsS113.drewN | apply IsS113.drew | apply IsS113.zbx | apply IsS113.zbv) | exact HI0.out), by repeat (first | (with_reducible first | exact HB.out | apply zad | apply zac | apply zae | refine zah ?_ (IsS113.ge HI0.out)) | exact HB.out), by repeat (first | (with_reducible first | exact HK.out | apply KeepBut.set_ | apply zas | apply zav | apply zar) | exact HK.out)⟩
    · rw [if_neg c6] at H
      have c6b0 : decide ((IntKind.u64.wrap (wrap64 ((s0_0.length : Int) - t107))) < t106) = false := decide_eq_false c6
      clear c6
      simp only [Option.some.injEq, Prod.mk.injEq] at H
      obtain ⟨rfl, rfl, rfl⟩ := H
      go_enter Try.func62, Try.ntmps62
      go_wp2_with (first | (go_at_call 69; (with_reducible refine (zan.calls k (As0 := As0) (cs0 := cs0) g s0_0 s0_1 s0_2 t106 t107 false w0 _ ?side1 ?side2 A2.out).mono ?_); (case side1 => repeat (first | (with_reducible first | exact HI0.out | apply IsS113.alloc | apply IsS113.drewN | apply IsS113.drew | apply IsS113.zbx | apply IsS113.zbv) | exact HI0.out)); (case side2 => repeat (first | (with_reducible first | exact HB.out | apply zad | apply zac | apply zae | refine zah ?_ (IsS113.ge HI0.out)) | exact HB.out)); rintro e w9 ⟨rfl, hi, hb, hk⟩; have n0_ := Aside0.mk (KeepBut.trans (by repeat (first | (with_reducible first | exact HK.out | apply KeepBut.set_ | apply zas | apply zav | apply zar) | exact HK.out)) hk (.inl rfl)); have n1_ := Aside0.mk (hb); have n2_ := Aside0.mk (hi); clear HK; clear HB; clear HI0; have HK := n0_; have HB := n1_; have HI0 := n2_; clear n0_ n1_ n2_; (try clear hb); (try clear hb2); (try clear hk); (try clear hi); obtain ⟨ASz10_0, cSz10_0, HGz10, hgz10, ⟨HSz10_0, -, -, -⟩⟩ := HI0.out; have hcz10_0 := zck HGz10; have hcz10_1 := zcj HGz10; have hcz10_2 := zcl HGz10; have hfz10_1 := zab HGz10 1; have hfz10_2 := zab HGz10 2; clear HGz10 hgz10))
      repeat (go_quiet (first | (go_at_call 69; (with_reducible refine (zan.calls k (As0 := As0) (cs0 := cs0) g s0_0 s0_1 s0_2 t106 t107 false w0 _ ?side1 ?side2 A2.out).mono ?_); (case side1 => repeat (first | (with_reducible first | exact HI0.out | apply IsS113.alloc | apply IsS113.drewN | apply IsS113.drew | apply IsS113.zbx | apply IsS113.zbv) | exact HI0.out)); (case side2 => repeat (first | (with_reducible first | exact HB.out | apply zad | apply zac | apply zae | refine zah ?_ (IsS113.ge HI0.out)) | exact HB.out)); rintro e w9 ⟨rfl, hi, hb, hk⟩; have n0_ := Aside0.mk (KeepBut.trans (by repeat (first | (with_reducible first | exact HK.out | apply KeepBut.set_ | apply zas | apply zav | apply zar) | exact HK.out)) hk (.inl rfl)); have n1_ := Aside0.mk (hb); have n2_ := Aside0.mk (hi); clear HK; clear HB; clear HI0; have HK := n0_; have HB := n1_; have HI0 := n2_; clear n0_ n1_ n2_; (try clear hb); (try clear hb2); (try clear hk); (try clear hi); obtain ⟨ASz10_0, cSz10_0, HGz10, hgz10, ⟨HSz10_0, -, -, -⟩⟩ := HI0.out; have hcz10_0 := zck HGz10; have hcz10_1 := zcj HGz10; have hcz10_2 := zcl HGz10; have hfz10_1 := zab HGz10 1; have hfz10_2 := zab HGz10 2; clear HGz10 hgz10)); try go_wp2_with (first | (go_at_call 69; (with_reducible refine (zan.calls k (As0 := As0) (cs0 := cs0) g s0_0 s0_1 s0_2 t106 t107 false w0 _ ?side1 ?side2 A2.out).mono ?_); (case side1 => repeat (first | (with_reducible first | exact HI0.out | apply IsS113.alloc | apply IsS113.drewN | apply IsS113.drew | apply IsS113.zbx | apply IsS113.zbv) | exact HI0.out)); (case side2 => repeat (first | (with_reducible first | exact HB.out | apply zad | apply zac | apply zae | refine zah ?_ (IsS113.ge HI0.out)) | exact HB.out)); rintro e w9 ⟨rfl, hi, hb, hk⟩; have n0_ := Aside0.mk (KeepBut.trans (by repeat (first | (with_reducible first | exact HK.out | apply KeepBut.set_ | apply zas | apply zav | apply zar) | exact HK.out)) hk (.inl rfl)); have n1_ := Aside0.mk (hb); have n2_ := Aside0.mk (hi); clear HK; clear HB; clear HI0; have HK := n0_; have HB := n1_; have HI0 := n2_; clear n0_ n1_ n2_; (try clear hb); (try clear hb2); (try clear hk); (try clear hi); obtain ⟨ASz10_0, cSz10_0, HGz10, hgz10, ⟨HSz10_0, -, -, -⟩⟩ := HI0.out; have hcz10_0 := zck HGz10; have hcz10_1 := zcj HGz10; have hcz10_2 := zcl HGz10; have hfz10_1 := zab HGz10 1; have hfz10_2 := zab HGz10 2; clear HGz10 hgz10)))
      go_ret
      exact ⟨by first | rfl | (simp [zay, zax] <;> rfl) | (simp [*, zay, zax] <;> rfl), by repeat (first | (with_reducible first | exact HI0.out | apply IsS113.alloc | apply IsS113.drewN | apply IsS113.drew | apply IsS113.zbx | apply IsS113.zbv) | exact HI0.out), by repeat (first | (with_reducible first | exact HB.out | apply zad | apply zac | apply zae | refine zah ?_ (IsS113.ge HI0.out)) | exact HB.out), by repeat (first | (with_reducible first | exact HK.out | apply KeepBut.set_ | apply zas | apply zav | apply zar) | exact HK.out)⟩
end Go.Proofs.Ytjhcbggpbfejgaa.Pa
