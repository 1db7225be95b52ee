-- written by wip/xprint.py: the kit's print with functions walked by hand
import Derived.Test.YtpaopeiegaijiaaGreatDoorXXmlWritesx0
namespace Go.Proofs.YtpaopeiegaijiaaGreatDoor.XXmlWrites
open Go.RowKit Go.Proofs.YtpaopeiegaijiaaGreatDoorW.zgv Go.Proofs.YtpaopeiegaijiaaGreatDoorW.zgw Go.Proofs.YtpaopeiegaijiaaGreatDoorW.zgx
attribute [local go_sem] zde zdc zdq zdp zcs zcr zdd zdb   -- for this text's walks alone
set_option linter.unusedVariables false
set_option linter.unusedSimpArgs false
mutual
def zaf.l0 : Nat → List (S60) → List Int → List (S60) → Int → Int → Option (ByteArray)
  | 0, _, _, _, _, _ => none
  | k + 1, x0, x3, x8, x9, x10 => if x10 < x9 then (if 0 ≤ x10 then (if x10 < (x8.length : Int) then (if ((zab x8 x10).f1) = 1 then (if 2 + ((zab x8 x10).f2).size ≤ 9223372036854775807 then (zaf.j1 k x0 x3 x10 ((⟨#[68, 58]⟩ : ByteArray) ++ ((zab x8 x10).f2)) x8 x9 x10 ((zab x8 x10).f0) ((zab x8 x10).f1) ((zab x8 x10).f2) ((zab x8 x10).f3)) else (none)) else (zaf.j1 k x0 x3 x10 ((zab x8 x10).f2) x8 x9 x10 ((zab x8 x10).f0) ((zab x8 x10).f1) ((zab x8 x10).f2) ((zab x8 x10).f3))) else (none)) else (none)) else (some (strOfNums x3))
def zaf.j1 : Nat → List (S60) → List Int → Int → ByteArray → List (S60) → Int → Int → Int → Int → ByteArray → ByteArray → Option (ByteArray)
  | 0, _, _, _, _, _, _, _, _, _, _, _ => none
  | k + 1, x0, x3, x4, x6, x8, x9, x10, x152000, x152001, x152002, x152003 => if x152001 = 2 then (if 2 + x6.size ≤ 9223372036854775807 then (zaf.j2 k x0 x3 x4 ((⟨#[67, 58]⟩ : ByteArray) ++ x6) x8 x9 x10 x152000 x152001 x152002 x152003) else (none)) else (zaf.j2 k x0 x3 x4 x6 x8 x9 x10 x152000 x152001 x152002 x152003)
def zaf.j2 : Nat → List (S60) → List Int → Int → ByteArray → List (S60) → Int → Int → Int → Int → ByteArray → ByteArray → Option (ByteArray)
  | 0, _, _, _, _, _, _, _, _, _, _, _ => none
  | k + 1, x0, x3, x4, x6, x8, x9, x10, x152000, x152001, x152002, x152003 => if x152000 = 1 then (if 1 + x6.size ≤ 9223372036854775807 then (if x3.length + ((⟨#[60]⟩ : ByteArray) ++ x6).size < 140737488355328 then ((some (x3 ++ bytesOf ((⟨#[60]⟩ : ByteArray) ++ x6) : List Int)).bind fun y152 => (if x4 = 0 then (if y152.length + 56 < 140737488355328 then ((some (y152 ++ bytesOf (⟨#[32, 120, 109, 108, 110, 115, 58, 68, 61, 34, 68, 65, 86, 58, 34, 32, 120, 109, 108, 110, 115, 58, 67, 61, 34, 117, 114, 110, 58, 105, 101, 116, 102, 58, 112, 97, 114, 97, 109, 115, 58, 120, 109, 108, 58, 110, 115, 58, 99, 97, 114, 100, 100, 97, 118, 34]⟩ : ByteArray) : List Int)).bind fun y155 => (if 0 ≤ (wrap64 (x4 + 1)) then (if (wrap64 (x4 + 1)) < (x0.length : Int) then (if ((zab x0 (wrap64 (x4 + 1))).f0) = 2 then (if y155.length < 140737488355328 then ((some (y155 ++ [47] : List Int)).bind fun y159 => (if y159.length < 140737488355328 then (zaf.j3 k x0 (y159 ++ [62]) x4 x6 x8 x9 x10 x152000 x152001 x152002 x152003) else (none))) else (none)) else (if y155.length < 140737488355328 then (zaf.j3 k x0 (y155 ++ [62]) x4 x6 x8 x9 x10 x152000 x152001 x152002 x152003) else (none))) else (none)) else (none))) else (none)) else (if 0 ≤ (wrap64 (x4 + 1)) then (if (wrap64 (x4 + 1)) < (x0.length : Int) then (if ((zab x0 (wrap64 (x4 + 1))).f0) = 2 then (if y152.length < 140737488355328 then ((some (y152 ++ [47] : List Int)).bind fun y169 => (if y169.length < 140737488355328 then (zaf.j3 k x0 (y169 ++ [62]) x4 x6 x8 x9 x10 x152000 x152001 x152002 x152003) else (none))) else (none)) else (if y152.length < 140737488355328 then (zaf.j3 k x0 (y152 ++ [62]) x4 x6 x8 x9 x10 x152000 x152001 x152002 x152003) else (none))) else (none)) else (none)))) else (none)) else (none)) else (zaf.j3 k x0 x3 x4 x6 x8 x9 x10 x152000 x152001 x152002 x152003)
def zaf.j3 : Nat → List (S60) → List Int → Int → ByteArray → List (S60) → Int → Int → Int → Int → ByteArray → ByteArray → Option (ByteArray)
  | 0, _, _, _, _, _, _, _, _, _, _, _ => none
  | k + 1, x0, x3, x4, x6, x8, x9, x10, x152000, x152001, x152002, x152003 => if x152000 = 2 then (if 0 ≤ (wrap64 (x4 - 1)) then (if (wrap64 (x4 - 1)) < (x0.length : Int) then (zaf.j4 k x0 x3 x6 x8 x9 x10 (((zab x0 (wrap64 (x4 - 1))).f0) != 1) x152000 x152001 x152002 x152003) else (none)) else (none)) else (zaf.j4 k x0 x3 x6 x8 x9 x10 false x152000 x152001 x152002 x152003)
def zaf.j4 : Nat → List (S60) → List Int → ByteArray → List (S60) → Int → Int → Bool → Int → Int → ByteArray → ByteArray → Option (ByteArray)
  | 0, _, _, _, _, _, _, _, _, _, _, _ => none
  | k + 1, x0, x3, x6, x8, x9, x10, x62, x152000, x152001, x152002, x152003 => if x62 = true then (if 2 + x6.size ≤ 9223372036854775807 then (if ((⟨#[60, 47]⟩ : ByteArray) ++ x6).size + 1 ≤ 9223372036854775807 then (if x3.length + (((⟨#[60, 47]⟩ : ByteArray) ++ x6) ++ (⟨#[62]⟩ : ByteArray)).size < 140737488355328 then (zaf.j5 k x0 (x3 ++ bytesOf (((⟨#[60, 47]⟩ : ByteArray) ++ x6) ++ (⟨#[62]⟩ : ByteArray))) x8 x9 x10 x152000 x152001 x152002 x152003) else (none)) else (none)) else (none)) else (zaf.j5 k x0 x3 x8 x9 x10 x152000 x152001 x152002 x152003)
def zaf.j5 : Nat → List (S60) → List Int → List (S60) → Int → Int → Int → Int → ByteArray → ByteArray → Option (ByteArray)
  | 0, _, _, _, _, _, _, _, _, _ => none
  | k + 1, x0, x3, x8, x9, x10, x152000, x152001, x152002, x152003 => zaf.l1 k x0 x3 0 x8 x9 x10 x152000 x152001 x152002 x152003
def zaf.l1 : Nat → List (S60) → List Int → Int → List (S60) → Int → Int → Int → Int → ByteArray → ByteArray → Option (ByteArray)
  | 0, _, _, _, _, _, _, _, _, _, _ => none
  | k + 1, x0, x3, x7, x8, x9, x10, x152000, x152001, x152002, x152003 => if x7 < (x152003.size : Int) then (if 0 ≤ x7 then (if (bt x152003 x7) = 38 then (if x3.length + 5 < 140737488355328 then (zaf.l1 k x0 (x3 ++ bytesOf (⟨#[38, 97, 109, 112, 59]⟩ : ByteArray)) (wrap64 (x7 + 1)) x8 x9 x10 x152000 x152001 x152002 x152003) else (none)) else (if (bt x152003 x7) = 60 then (if x3.length + 4 < 140737488355328 then (zaf.l1 k x0 (x3 ++ bytesOf (⟨#[38, 108, 116, 59]⟩ : ByteArray)) (wrap64 (x7 + 1)) x8 x9 x10 x152000 x152001 x152002 x152003) else (none)) else (if (bt x152003 x7) = 62 then (if x3.length + 4 < 140737488355328 then (zaf.l1 k x0 (x3 ++ bytesOf (⟨#[38, 103, 116, 59]⟩ : ByteArray)) (wrap64 (x7 + 1)) x8 x9 x10 x152000 x152001 x152002 x152003) else (none)) else (if (bt x152003 x7) = 13 then (if x3.length + 5 < 140737488355328 then (zaf.l1 k x0 (x3 ++ bytesOf (⟨#[38, 35, 49, 51, 59]⟩ : ByteArray)) (wrap64 (x7 + 1)) x8 x9 x10 x152000 x152001 x152002 x152003) else (none)) else (if x3.length < 140737488355328 then (zaf.l1 k x0 (x3 ++ [bt x152003 x7]) (wrap64 (x7 + 1)) x8 x9 x10 x152000 x152001 x152002 x152003) else (none)))))) else (none)) else (zaf.l0 k x0 x3 x8 x9 (wrap64 (x10 + 1)))
end
def zaf.f (k : Nat) (l0 : List (S60)) : Option (ByteArray) := zaf.l0 k l0 ([] : List Int) l0 (l0.length : Int) 0
set_option maxHeartbeats 8000000 in
set_option maxRecDepth 100000 in
theorem zaf.calls (k : Nat) (A0 : Option Addr) (c0 : Nat) (l0 : List (S60)) (r : ByteArray) (w : World) (hr0 : Kd.C k60 w A0 l0.length l0) (hc0 : l0.length ≤ c0) (hT : LaidM w) (h : zaf.f k l0 = some r) :
    Calls Tryz.prog 24 #[.slice A0 l0.length c0] w fun e w' => e = .returned (.string r) ∧ Below w.heap.size w w' := by
  have hu60 := Tryz.underlying60
  have HR0 := Aside0.mk hr0
  have HC0 := Aside0.mk hc0
  clear hr0 hc0
  have HB := Aside0.mk (Below.refl w.heap.size w)
  have HT := Aside0.mk hT
  clear hT
  have H : (zaf.l0 k l0 ([] : List Int) l0 (l0.length : Int) 0) = some r := h
  clear h
  have H' := Aside0.mk H
  clear H
  go_enter Tryz.func24, Tryz.ntmps24
  go_wp2
  go_loopg [3, 10] k (fun kq v3 v10 w' => ∃ (x3_1 : List Int) (x10_1 : Int), v10 = .int .i64 x10_1 ∧ Aside0 (zaf.l0 kq l0 x3_1 l0 (l0.length : Int) x10_1 = some r) ∧ Aside0 (kq ≤ k) ∧ Aside0 (Kd.R (Kd.int .u8) 5 w' w.heap.size (fun _ => True) v3 x3_1) ∧ Aside0 (Below w.heap.size w w'))
  case atStart => exact ⟨(([] : List Int)), (0), (by first | rfl | (simp; done) | (simp [*]; done)), H', ⟨Nat.le_refl _⟩, ⟨by first | exact Kd.zgj _ _ _ _ _ | exact Kd.zgu _ _ _ _ _ | exact Kd.zgr _ _ _ _ _ | exact Kd.zgt _ _ _ _ _ | exact Kd.zgs _ _ _ _ _⟩, ⟨by repeat (first | (with_reducible first | exact HB.out | apply zac | apply zaa | apply zad) | exact HB.out)⟩⟩
  case round =>
    clear H'
    obtain ⟨x3_1, x10_1, rfl, HA, HK1, HO_3, HB⟩ := hrel
    cases gk with
    | zero => exact absurd HA.out (by simp [zaf.l0])
    | succ k1 =>
      have H := HA.out
      clear HA
      simp only [zaf.l0] at H
      by_cases c2 : x10_1 < (l0.length : Int)
      · rw [if_pos c2] at H
        have c2b0 : decide (x10_1 < (l0.length : Int)) = true := decide_eq_true c2
        clear c2
        by_cases c3 : 0 ≤ x10_1
        · rw [if_pos c3] at H
          have c3b0 : decide (0 ≤ x10_1) = true := decide_eq_true c3
          clear c3
          by_cases c4 : x10_1 < (l0.length : Int)
          · rw [if_pos c4] at H
            have c4b0 : decide (x10_1 < (l0.length : Int)) = true := decide_eq_true c4
            clear c4
            have HC5 := Aside0.mk H
            clear H
            have p150 : 0 ≤ (x10_1 : Int) := of_decide_eq_true (by first | (with_reducible assumption) | assumption)
            have q150 : x10_1 < (l0.length : Int) := of_decide_eq_true (by first | (with_reducible assumption) | assumption)
            obtain ⟨ad150, e150, hx150_0, hx150_1, hx150_2, hx150_3⟩ := zci HR0.out x10_1 p150 q150
            cases e150
            replace hx150_0 := (HB.out.cell (World.block_lt_of_cell? w _ hx150_0)).trans hx150_0
            replace hx150_1 := (HB.out.cell (World.block_lt_of_cell? w _ hx150_1)).trans hx150_1
            replace hx150_2 := (HB.out.cell (World.block_lt_of_cell? w _ hx150_2)).trans hx150_2
            replace hx150_3 := (HB.out.cell (World.block_lt_of_cell? w _ hx150_3)).trans hx150_3
            replace p150 := eq_true p150
            replace q150 := eq_true q150
            go_upto_if 19 with (first | ((with_reducible refine zcg (N := 5) rfl ?_); refine zcu ?hg (N := 5) ?hd (cs := #[.int .i64 0, .int .i64 0, .string ⟨#[]⟩, .string ⟨#[]⟩]) (t := 60) ?hr ?_; (case hd => rfl); (case hg => rfl); (case hr => first | (go_simp; done) | (go_simp; rfl)); intro gb151 hg w6 hbox hb; have n0_ := Aside0.mk (Kd.zbh (by (with_reducible repeat (first | apply Kd.zar | apply Kd.zaq | apply Kd.zax)); exact HO_3.out) hb); have n1_ := Aside0.mk (zam (by repeat (first | (with_reducible first | exact HB.out | apply zac | apply zaa | apply zad) | exact HB.out)) hb); have n2_ := Aside0.mk (hbox); have n3_ := Aside0.mk ((by rw [hg]; exact (zaw (by repeat (first | (with_reducible first | exact HB.out | apply zac | apply zaa | apply zad) | exact HB.out))) : w.heap.size ≤ gb151)); have n4_ := Aside0.mk ((by rw [hg]; exact (zaw (by repeat (first | (with_reducible first | exact HB.out | apply zac | apply zaa | apply zad) | exact HB.out))) : w.heap.size ≤ gb151)); clear HO_3; clear HB; have HO_3 := n0_; have HB := n1_; have BK151 := n2_; have GW151 := n3_; have GE151 := n4_; clear n0_ n1_ n2_ n3_ n4_; clear hb hbox hg; have hcz7_0 : w6.cell? ⟨gb151, 0, none⟩ = some (.int .i64 0) := (zag BK151.out 0).trans rfl; have hcz7_1 : w6.cell? ⟨gb151, 1, none⟩ = some (.int .i64 0) := (zag BK151.out 1).trans rfl; have hcz7_2 : w6.cell? ⟨gb151, 2, none⟩ = some (.string ⟨#[]⟩) := (zag BK151.out 2).trans rfl; have hcz7_3 : w6.cell? ⟨gb151, 3, none⟩ = some (.string ⟨#[]⟩) := (zag BK151.out 3).trans rfl; have hfz7_0 := zae BK151.out 0; have hfz7_1 := zae BK151.out 1; have hfz7_2 := zae BK151.out 2; have hfz7_3 := zae BK151.out 3))
            (try simp only [Act.put, List.setIfInBounds_toArray, List.set_cons_zero, List.set_cons_succ])
            go_cut [6] (fun v6 wc => ∃ (kq : Nat) (x6_4 : ByteArray), v6 = .string x6_4 ∧ Aside0 (zaf.j1 kq l0 x3_1 x10_1 x6_4 l0 (l0.length : Int) x10_1 ((zab l0 x10_1).f0) ((zab l0 x10_1).f1) ((zab l0 x10_1).f2) ((zab l0 x10_1).f3) = some r) ∧ Aside0 (kq ≤ k1) ∧ Aside0 (Kd.R (Kd.int .u8) 5 wc w.heap.size (fun _ => True) u3 x3_1) ∧ Aside0 (wc.heap[gb151]? = some (.cells #[.int .i64 ((zab l0 x10_1).f0), .int .i64 ((zab l0 x10_1).f1), .string ((zab l0 x10_1).f2), .string ((zab l0 x10_1).f3)] 60 (0, 0))) ∧ Aside0 (Below w.heap.size w wc))
            case first =>
              have H := HC5.out
              clear HC5
              by_cases c8 : ((zab l0 x10_1).f1) = 1
              · rw [if_pos c8] at H
                have c8b0 : (((zab l0 x10_1).f1) == 1) = true := beq_iff_eq.mpr c8
                have c8b1 : (((zab l0 x10_1).f1) != 1) = false := bne_eq_false_iff_eq.mpr c8
                clear c8
                (first | rw [c8b0] | rw [c8b1] | (simp only [zco, zcw]; rw [c8b0]) | skip)
                by_cases c9 : 2 + ((zab l0 x10_1).f2).size ≤ 9223372036854775807
                · rw [if_pos c9] at H
                  have c9b0 := eq_true c9
                  have c9b1 : decide (2 + ((zab l0 x10_1).f2).size ≤ 9223372036854775807) = true := decide_eq_true c9
                  try have c9b2 : (9223372036854775807 < 2 + ((zab l0 x10_1).f2).size) = False := eq_false (Nat.not_lt.2 c9)
                  have H' := Aside0.mk H
                  clear H
                  go_wp2
                  go_meet
                  case rel => exact ⟨_, ((⟨#[68, 58]⟩ : ByteArray) ++ ((zab l0 x10_1).f2)), (by first | rfl | (simp; done) | (simp [*]; done)), H', ⟨by have := HK1.out; first | omega | exact Nat.le_refl _⟩, ⟨by (with_reducible repeat (first | apply Kd.zar | apply Kd.zaq | apply Kd.zax)); exact Kd.zbr (Kd.zbq (p := ⟨gb151, 3, none⟩) (Kd.zbq (p := ⟨gb151, 2, none⟩) (Kd.zbq (p := ⟨gb151, 1, none⟩) (Kd.zbq (p := ⟨gb151, 0, none⟩) (Kd.R_types HO_3.out BK151.out (by decide)) (fun _ hk => hk.2) (.int .i64 ((zab l0 x10_1).f0))) (fun _ hk => hk.2) (.int .i64 ((zab l0 x10_1).f1))) (fun _ hk => hk.2) (.string ((zab l0 x10_1).f2))) (fun _ hk => hk.2) (.string ((zab l0 x10_1).f3))) (fun _ hk => trivial)⟩, ⟨by (with_reducible repeat (first | refine zai ?_ _ | refine zal ?_ | refine zaj ?_ _)); refine zbb (cs := #[.int .i64 ((zab l0 x10_1).f0), .int .i64 ((zab l0 x10_1).f1), .string ((zab l0 x10_1).f2), .string ⟨#[]⟩]) ?_ 3 _ rfl; (with_reducible repeat (first | refine zai ?_ _ | refine zal ?_ | refine zaj ?_ _)); refine zbb (cs := #[.int .i64 ((zab l0 x10_1).f0), .int .i64 ((zab l0 x10_1).f1), .string ⟨#[]⟩, .string ⟨#[]⟩]) ?_ 2 _ rfl; (with_reducible repeat (first | refine zai ?_ _ | refine zal ?_ | refine zaj ?_ _)); refine zbb (cs := #[.int .i64 ((zab l0 x10_1).f0), .int .i64 0, .string ⟨#[]⟩, .string ⟨#[]⟩]) ?_ 1 _ rfl; (with_reducible repeat (first | refine zai ?_ _ | refine zal ?_ | refine zaj ?_ _)); refine zbb (cs := #[.int .i64 0, .int .i64 0, .string ⟨#[]⟩, .string ⟨#[]⟩]) ?_ 0 _ rfl; (with_reducible repeat (first | refine zai ?_ _ | refine zal ?_ | refine zaj ?_ _)); exact BK151.out⟩, ⟨by repeat (first | (with_reducible first | exact HB.out | apply zac | apply zaa | apply zad | refine zak ?_ GE151.out) | exact HB.out)⟩⟩
                · rw [if_neg c9] at H
                  exact absurd H (by simp)
              · rw [if_neg c8] at H
                have c8b0 : (((zab l0 x10_1).f1) == 1) = false := beq_eq_false_iff_ne.mpr c8
                have c8b1 : (((zab l0 x10_1).f1) != 1) = true := bne_iff_ne.mpr c8
                (first | rw [c8b0] | rw [c8b1] | (simp only [zco, zcw]; rw [c8b0]) | skip)
                have H' := Aside0.mk H
                clear H
                go_wp2
                go_meet
                case rel => exact ⟨_, ((zab l0 x10_1).f2), (by first | rfl | (simp; done) | (simp [*]; done)), H', ⟨by have := HK1.out; first | omega | exact Nat.le_refl _⟩, ⟨by (with_reducible repeat (first | apply Kd.zar | apply Kd.zaq | apply Kd.zax)); exact Kd.zbr (Kd.zbq (p := ⟨gb151, 3, none⟩) (Kd.zbq (p := ⟨gb151, 2, none⟩) (Kd.zbq (p := ⟨gb151, 1, none⟩) (Kd.zbq (p := ⟨gb151, 0, none⟩) (Kd.R_types HO_3.out BK151.out (by decide)) (fun _ hk => hk.2) (.int .i64 ((zab l0 x10_1).f0))) (fun _ hk => hk.2) (.int .i64 ((zab l0 x10_1).f1))) (fun _ hk => hk.2) (.string ((zab l0 x10_1).f2))) (fun _ hk => hk.2) (.string ((zab l0 x10_1).f3))) (fun _ hk => trivial)⟩, ⟨by (with_reducible repeat (first | refine zai ?_ _ | refine zal ?_ | refine zaj ?_ _)); refine zbb (cs := #[.int .i64 ((zab l0 x10_1).f0), .int .i64 ((zab l0 x10_1).f1), .string ((zab l0 x10_1).f2), .string ⟨#[]⟩]) ?_ 3 _ rfl; (with_reducible repeat (first | refine zai ?_ _ | refine zal ?_ | refine zaj ?_ _)); refine zbb (cs := #[.int .i64 ((zab l0 x10_1).f0), .int .i64 ((zab l0 x10_1).f1), .string ⟨#[]⟩, .string ⟨#[]⟩]) ?_ 2 _ rfl; (with_reducible repeat (first | refine zai ?_ _ | refine zal ?_ | refine zaj ?_ _)); refine zbb (cs := #[.int .i64 ((zab l0 x10_1).f0), .int .i64 0, .string ⟨#[]⟩, .string ⟨#[]⟩]) ?_ 1 _ rfl; (with_reducible repeat (first | refine zai ?_ _ | refine zal ?_ | refine zaj ?_ _)); refine zbb (cs := #[.int .i64 0, .int .i64 0, .string ⟨#[]⟩, .string ⟨#[]⟩]) ?_ 0 _ rfl; (with_reducible repeat (first | refine zai ?_ _ | refine zal ?_ | refine zaj ?_ _)); exact BK151.out⟩, ⟨by repeat (first | (with_reducible first | exact HB.out | apply zac | apply zaa | apply zad | refine zak ?_ GE151.out) | exact HB.out)⟩⟩
            case rest =>
              clear HC5
              try clear p1
              try clear q1
              try clear hx1
              try clear c2
              try clear c2b0
              try clear p2
              try clear c3
              try clear c3b0
              try clear c4
              try clear c4b0
              try clear c8
              try clear c8b0
              try clear c8b1
              try clear c9
              try clear c9b0
              try clear c9b1
              try clear c9b2
              try clear hcz7_0
              try clear hcz7_1
              try clear hcz7_2
              try clear hcz7_3
              try clear hfz7_0
              try clear hfz7_1
              try clear hfz7_2
              try clear hfz7_3
              try clear hx150_0
              try clear hx150_1
              try clear hx150_2
              try clear hx150_3
              try clear p150
              try clear q150
              obtain ⟨kq, x6_4, rfl, HA, HJ4, HO_3, BK151, HB⟩ := hcut
              cases kq with
              | zero => exact absurd HA.out (by simp [zaf.j1])
              | succ kj4 =>
                have H := HA.out
                clear HA
                simp only [zaf.j1] at H
                have HC10 := Aside0.mk H
                clear H
                have hcz11_0 : wc.cell? ⟨gb151, 0, none⟩ = some (.int .i64 ((zab l0 x10_1).f0)) := (zag BK151.out 0).trans rfl
                have hcz11_1 : wc.cell? ⟨gb151, 1, none⟩ = some (.int .i64 ((zab l0 x10_1).f1)) := (zag BK151.out 1).trans rfl
                have hcz11_2 : wc.cell? ⟨gb151, 2, none⟩ = some (.string ((zab l0 x10_1).f2)) := (zag BK151.out 2).trans rfl
                have hcz11_3 : wc.cell? ⟨gb151, 3, none⟩ = some (.string ((zab l0 x10_1).f3)) := (zag BK151.out 3).trans rfl
                have hfz11_0 := zae BK151.out 0
                have hfz11_1 := zae BK151.out 1
                have hfz11_2 := zae BK151.out 2
                have hfz11_3 := zae BK151.out 3
                go_upto_if 24 with (fail)
                go_cut [6] (fun v6 wc => ∃ (kq : Nat) (x6_9 : ByteArray), v6 = .string x6_9 ∧ Aside0 (zaf.j2 kq l0 x3_1 x10_1 x6_9 l0 (l0.length : Int) x10_1 ((zab l0 x10_1).f0) ((zab l0 x10_1).f1) ((zab l0 x10_1).f2) ((zab l0 x10_1).f3) = some r) ∧ Aside0 (kq ≤ kj4) ∧ Aside0 (Kd.R (Kd.int .u8) 5 wc w.heap.size (fun _ => True) u3 x3_1) ∧ Aside0 (wc.heap[gb151]? = some (.cells #[.int .i64 ((zab l0 x10_1).f0), .int .i64 ((zab l0 x10_1).f1), .string ((zab l0 x10_1).f2), .string ((zab l0 x10_1).f3)] 60 (0, 0))) ∧ Aside0 (Below w.heap.size w wc))
                case first =>
                  have H := HC10.out
                  clear HC10
                  by_cases c12 : ((zab l0 x10_1).f1) = 2
                  · rw [if_pos c12] at H
                    have c12b0 : (((zab l0 x10_1).f1) == 2) = true := beq_iff_eq.mpr c12
                    have c12b1 : (((zab l0 x10_1).f1) != 2) = false := bne_eq_false_iff_eq.mpr c12
                    clear c12
                    (first | rw [c12b0] | rw [c12b1] | (simp only [zco, zcw]; rw [c12b0]) | skip)
                    by_cases c13 : 2 + x6_4.size ≤ 9223372036854775807
                    · rw [if_pos c13] at H
                      have c13b0 := eq_true c13
                      have c13b1 : decide (2 + x6_4.size ≤ 9223372036854775807) = true := decide_eq_true c13
                      try have c13b2 : (9223372036854775807 < 2 + x6_4.size) = False := eq_false (Nat.not_lt.2 c13)
                      have H' := Aside0.mk H
                      clear H
                      go_wp2
                      go_meet
                      case rel => exact ⟨_, ((⟨#[67, 58]⟩ : ByteArray) ++ x6_4), (by first | rfl | (simp; done) | (simp [*]; done)), H', ⟨by have := HK1.out; have := HJ4.out; first | omega | exact Nat.le_refl _⟩, ⟨by (with_reducible repeat (first | apply Kd.zar | apply Kd.zaq | apply Kd.zax)); exact HO_3.out⟩, ⟨by (with_reducible repeat (first | refine zai ?_ _ | refine zal ?_ | refine zaj ?_ _)); exact BK151.out⟩, ⟨by repeat (first | (with_reducible first | exact HB.out | apply zac | apply zaa | apply zad | refine zak ?_ GE151.out) | exact HB.out)⟩⟩
                    · rw [if_neg c13] at H
                      exact absurd H (by simp)
                  · rw [if_neg c12] at H
                    have c12b0 : (((zab l0 x10_1).f1) == 2) = false := beq_eq_false_iff_ne.mpr c12
                    have c12b1 : (((zab l0 x10_1).f1) != 2) = true := bne_iff_ne.mpr c12
                    (first | rw [c12b0] | rw [c12b1] | (simp only [zco, zcw]; rw [c12b0]) | skip)
                    have H' := Aside0.mk H
                    clear H
                    go_wp2
                    go_meet
                    case rel => exact ⟨_, (x6_4), (by first | rfl | (simp; done) | (simp [*]; done)), H', ⟨by have := HK1.out; have := HJ4.out; first | omega | exact Nat.le_refl _⟩, ⟨by (with_reducible repeat (first | apply Kd.zar | apply Kd.zaq | apply Kd.zax)); exact HO_3.out⟩, ⟨by (with_reducible repeat (first | refine zai ?_ _ | refine zal ?_ | refine zaj ?_ _)); exact BK151.out⟩, ⟨by repeat (first | (with_reducible first | exact HB.out | apply zac | apply zaa | apply zad | refine zak ?_ GE151.out) | exact HB.out)⟩⟩
                case rest =>
                  clear HC10
                  try clear c1
                  try clear p1
                  try clear q1
                  try clear hx1
                  try clear c2
                  try clear c2b0
                  try clear p2
                  try clear c3
                  try clear c3b0
                  try clear c4
                  try clear c4b0
                  try clear c8
                  try clear c8b0
                  try clear c8b1
                  try clear c9
                  try clear c9b0
                  try clear c9b1
                  try clear c9b2
                  try clear c12
                  try clear c12b0
                  try clear c12b1
                  try clear c13
                  try clear c13b0
                  try clear c13b1
                  try clear c13b2
                  try clear hcz11_0
                  try clear hcz11_1
                  try clear hcz11_2
                  try clear hcz11_3
                  try clear hcz7_0
                  try clear hcz7_1
                  try clear hcz7_2
                  try clear hcz7_3
                  try clear hfz11_0
                  try clear hfz11_1
                  try clear hfz11_2
                  try clear hfz11_3
                  try clear hfz7_0
                  try clear hfz7_1
                  try clear hfz7_2
                  try clear hfz7_3
                  try clear hx150_0
                  try clear hx150_1
                  try clear hx150_2
                  try clear hx150_3
                  try clear p1
                  try clear p150
                  try clear p2
                  try clear q1
                  try clear q150
                  obtain ⟨kq, x6_9, rfl, HA, HJ9, HO_3, BK151, HB⟩ := hcut
                  cases kq with
                  | zero => exact absurd HA.out (by simp [zaf.j2])
                  | succ kj9 =>
                    have H := HA.out
                    clear HA
                    simp only [zaf.j2] at H
                    have HC14 := Aside0.mk H
                    clear H
                    have hcz15_0 : wc.cell? ⟨gb151, 0, none⟩ = some (.int .i64 ((zab l0 x10_1).f0)) := (zag BK151.out 0).trans rfl
                    have hcz15_1 : wc.cell? ⟨gb151, 1, none⟩ = some (.int .i64 ((zab l0 x10_1).f1)) := (zag BK151.out 1).trans rfl
                    have hcz15_2 : wc.cell? ⟨gb151, 2, none⟩ = some (.string ((zab l0 x10_1).f2)) := (zag BK151.out 2).trans rfl
                    have hcz15_3 : wc.cell? ⟨gb151, 3, none⟩ = some (.string ((zab l0 x10_1).f3)) := (zag BK151.out 3).trans rfl
                    have hfz15_0 := zae BK151.out 0
                    have hfz15_1 := zae BK151.out 1
                    have hfz15_2 := zae BK151.out 2
                    have hfz15_3 := zae BK151.out 3
                    go_upto_if 29 with (fail)
                    go_cut [3] (fun v3 wc => ∃ (kq : Nat) (x3_13 : List Int), Aside0 (zaf.j3 kq l0 x3_13 x10_1 x6_9 l0 (l0.length : Int) x10_1 ((zab l0 x10_1).f0) ((zab l0 x10_1).f1) ((zab l0 x10_1).f2) ((zab l0 x10_1).f3) = some r) ∧ Aside0 (kq ≤ kj9) ∧ Aside0 (Kd.R (Kd.int .u8) 5 wc w.heap.size (fun _ => True) v3 x3_13) ∧ Aside0 (wc.heap[gb151]? = some (.cells #[.int .i64 ((zab l0 x10_1).f0), .int .i64 ((zab l0 x10_1).f1), .string ((zab l0 x10_1).f2), .string ((zab l0 x10_1).f3)] 60 (0, 0))) ∧ Aside0 (Below w.heap.size w wc))
                    case first =>
                      have H := HC14.out
                      clear HC14
                      by_cases c16 : ((zab l0 x10_1).f0) = 1
                      · rw [if_pos c16] at H
                        have c16b0 : (((zab l0 x10_1).f0) == 1) = true := beq_iff_eq.mpr c16
                        have c16b1 : (((zab l0 x10_1).f0) != 1) = false := bne_eq_false_iff_eq.mpr c16
                        clear c16
                        (first | rw [c16b0] | rw [c16b1] | (simp only [zco, zcw]; rw [c16b0]) | skip)
                        by_cases c17 : 1 + x6_9.size ≤ 9223372036854775807
                        · rw [if_pos c17] at H
                          have c17b0 := eq_true c17
                          have c17b1 : decide (1 + x6_9.size ≤ 9223372036854775807) = true := decide_eq_true c17
                          try have c17b2 : (9223372036854775807 < 1 + x6_9.size) = False := eq_false (Nat.not_lt.2 c17)
                          by_cases c18 : x3_1.length + ((⟨#[60]⟩ : ByteArray) ++ x6_9).size < 140737488355328
                          · rw [if_pos c18] at H
                            have c18e := c18
                            (try simp only [ByteArray.size_append, gt_iff_lt, ge_iff_le, show (⟨#[60]⟩ : ByteArray).size = 1 from rfl] at c18e)
                            (try simp only [Int.natCast_add, Int.cast_ofNat_Int] at c18e)
                            (try (have c18e2 := decide_eq_true c18e))
                            (try replace c18e := eq_true c18e)
                            have LMc18 := Aside0.mk c18
                            clear c18
                            obtain ⟨y152, hy152⟩ : ∃ y_ : List Int, y_ = (x3_1 ++ bytesOf ((⟨#[60]⟩ : ByteArray) ++ x6_9)) := ⟨_, rfl⟩
                            replace H : (if x10_1 = 0 then (if y152.length + 56 < 140737488355328 then ((some (y152 ++ bytesOf (⟨#[32, 120, 109, 108, 110, 115, 58, 68, 61, 34, 68, 65, 86, 58, 34, 32, 120, 109, 108, 110, 115, 58, 67, 61, 34, 117, 114, 110, 58, 105, 101, 116, 102, 58, 112, 97, 114, 97, 109, 115, 58, 120, 109, 108, 58, 110, 115, 58, 99, 97, 114, 100, 100, 97, 118, 34]⟩ : ByteArray) : List Int)).bind fun y155 => (if 0 ≤ (wrap64 (x10_1 + 1)) then (if (wrap64 (x10_1 + 1)) < (l0.length : Int) then (if ((zab l0 (wrap64 (x10_1 + 1))).f0) = 2 then (if y155.length < 140737488355328 then ((some (y155 ++ [47] : List Int)).bind fun y159 => (if y159.length < 140737488355328 then (zaf.j3 kj9 l0 (y159 ++ [62]) x10_1 x6_9 l0 (l0.length : Int) x10_1 ((zab l0 x10_1).f0) ((zab l0 x10_1).f1) ((zab l0 x10_1).f2) ((zab l0 x10_1).f3)) else (none))) else (none)) else (if y155.length < 140737488355328 then (zaf.j3 kj9 l0 (y155 ++ [62]) x10_1 x6_9 l0 (l0.length : Int) x10_1 ((zab l0 x10_1).f0) ((zab l0 x10_1).f1) ((zab l0 x10_1).f2) ((zab l0 x10_1).f3)) else (none))) else (none)) else (none))) else (none)) else (if 0 ≤ (wrap64 (x10_1 + 1)) then (if (wrap64 (x10_1 + 1)) < (l0.length : Int) then (if ((zab l0 (wrap64 (x10_1 + 1))).f0) = 2 then (if y152.length < 140737488355328 then ((some (y152 ++ [47] : List Int)).bind fun y169 => (if y169.length < 140737488355328 then (zaf.j3 kj9 l0 (y169 ++ [62]) x10_1 x6_9 l0 (l0.length : Int) x10_1 ((zab l0 x10_1).f0) ((zab l0 x10_1).f1) ((zab l0 x10_1).f2) ((zab l0 x10_1).f3)) else (none))) else (none)) else (if y152.length < 140737488355328 then (zaf.j3 kj9 l0 (y152 ++ [62]) x10_1 x6_9 l0 (l0.length : Int) x10_1 ((zab l0 x10_1).f0) ((zab l0 x10_1).f1) ((zab l0 x10_1).f2) ((zab l0 x10_1).f3)) else (none))) else (none)) else (none))) = some r := by first | (rw [hy152]; with_reducible exact H) | (have H2_ := (Option.bind_some _ _).symm.trans H; rw [hy152]; with_reducible exact H2_) | (have H2_ := (Option.bind_some _ _).symm.trans H; with_reducible exact H2_) | with_reducible exact H | (rw [hy152]; exact H) | exact H
                            have Ny152 := Aside0.mk hy152
                            clear hy152
                            by_cases c19 : x10_1 = 0
                            · rw [if_pos c19] at H
                              have c19b0 : (x10_1 == 0) = true := beq_iff_eq.mpr c19
                              have c19b1 : (x10_1 != 0) = false := bne_eq_false_iff_eq.mpr c19
                              clear c19
                              by_cases c20 : y152.length + 56 < 140737488355328
                              · rw [if_pos c20] at H
                                have LMc20 := Aside0.mk c20
                                clear c20
                                obtain ⟨y155, hy155⟩ : ∃ y_ : List Int, y_ = (y152 ++ bytesOf (⟨#[32, 120, 109, 108, 110, 115, 58, 68, 61, 34, 68, 65, 86, 58, 34, 32, 120, 109, 108, 110, 115, 58, 67, 61, 34, 117, 114, 110, 58, 105, 101, 116, 102, 58, 112, 97, 114, 97, 109, 115, 58, 120, 109, 108, 58, 110, 115, 58, 99, 97, 114, 100, 100, 97, 118, 34]⟩ : ByteArray)) := ⟨_, rfl⟩
                                replace H : (if 0 ≤ (wrap64 (x10_1 + 1)) then (if (wrap64 (x10_1 + 1)) < (l0.length : Int) then (if ((zab l0 (wrap64 (x10_1 + 1))).f0) = 2 then (if y155.length < 140737488355328 then ((some (y155 ++ [47] : List Int)).bind fun y159 => (if y159.length < 140737488355328 then (zaf.j3 kj9 l0 (y159 ++ [62]) x10_1 x6_9 l0 (l0.length : Int) x10_1 ((zab l0 x10_1).f0) ((zab l0 x10_1).f1) ((zab l0 x10_1).f2) ((zab l0 x10_1).f3)) else (none))) else (none)) else (if y155.length < 140737488355328 then (zaf.j3 kj9 l0 (y155 ++ [62]) x10_1 x6_9 l0 (l0.length : Int) x10_1 ((zab l0 x10_1).f0) ((zab l0 x10_1).f1) ((zab l0 x10_1).f2) ((zab l0 x10_1).f3)) else (none))) else (none)) else (none)) = some r := by first | (rw [hy155]; with_reducible exact H) | (have H2_ := (Option.bind_some _ _).symm.trans H; rw [hy155]; with_reducible exact H2_) | (have H2_ := (Option.bind_some _ _).symm.trans H; with_reducible exact H2_) | with_reducible exact H | (rw [hy155]; exact H) | exact H
                                have Ny155 := Aside0.mk hy155
                                clear hy155
                                obtain ⟨ji21, hji21⟩ : ∃ j_ : Int, (wrap64 (x10_1 + 1)) = j_ := ⟨_, rfl⟩
                                replace H : (if 0 ≤ (ji21) then (if (ji21) < (l0.length : Int) then (if ((zab l0 (ji21)).f0) = 2 then (if y155.length < 140737488355328 then ((some (y155 ++ [47] : List Int)).bind fun y159 => (if y159.length < 140737488355328 then (zaf.j3 kj9 l0 (y159 ++ [62]) x10_1 x6_9 l0 (l0.length : Int) x10_1 ((zab l0 x10_1).f0) ((zab l0 x10_1).f1) ((zab l0 x10_1).f2) ((zab l0 x10_1).f3)) else (none))) else (none)) else (if y155.length < 140737488355328 then (zaf.j3 kj9 l0 (y155 ++ [62]) x10_1 x6_9 l0 (l0.length : Int) x10_1 ((zab l0 x10_1).f0) ((zab l0 x10_1).f1) ((zab l0 x10_1).f2) ((zab l0 x10_1).f3)) else (none))) else (none)) else (none)) = some r := by first | (rw [hji21] at H; exact H) | (simp only [hji21] at H ⊢; exact H)
                                have hji21w : (IntKind.i64.wrap (x10_1 + 1)) = ji21 := (zco _).trans hji21
                                by_cases c22 : 0 ≤ (ji21)
                                · rw [if_pos c22] at H
                                  have c22b0 : decide (0 ≤ (ji21)) = true := decide_eq_true c22
                                  clear c22
                                  by_cases c23 : (ji21) < (l0.length : Int)
                                  · rw [if_pos c23] at H
                                    have c23b0 : decide ((ji21) < (l0.length : Int)) = true := decide_eq_true c23
                                    clear c23
                                    by_cases c24 : ((zab l0 (ji21)).f0) = 2
                                    · rw [if_pos c24] at H
                                      have c24b0 : (((zab l0 (ji21)).f0) == 2) = true := beq_iff_eq.mpr c24
                                      have c24b1 : (((zab l0 (ji21)).f0) != 2) = false := bne_eq_false_iff_eq.mpr c24
                                      clear c24
                                      by_cases c25 : y155.length < 140737488355328
                                      · rw [if_pos c25] at H
                                        have LMc25 := Aside0.mk c25
                                        clear c25
                                        obtain ⟨y159, hy159⟩ : ∃ y_ : List Int, y_ = (y155 ++ [47]) := ⟨_, rfl⟩
                                        replace H : (if y159.length < 140737488355328 then (zaf.j3 kj9 l0 (y159 ++ [62]) x10_1 x6_9 l0 (l0.length : Int) x10_1 ((zab l0 x10_1).f0) ((zab l0 x10_1).f1) ((zab l0 x10_1).f2) ((zab l0 x10_1).f3)) else (none)) = some r := by first | (rw [hy159]; with_reducible exact H) | (have H2_ := (Option.bind_some _ _).symm.trans H; rw [hy159]; with_reducible exact H2_) | (have H2_ := (Option.bind_some _ _).symm.trans H; with_reducible exact H2_) | with_reducible exact H | (rw [hy159]; exact H) | exact H
                                        have Ny159 := Aside0.mk hy159
                                        clear hy159
                                        by_cases c26 : y159.length < 140737488355328
                                        · rw [if_pos c26] at H
                                          have LMc26 := Aside0.mk c26
                                          clear c26
                                          obtain ⟨y162, hy162⟩ : ∃ y_ : List Int, y_ = (y159 ++ [62]) := ⟨_, rfl⟩
                                          replace H : (zaf.j3 kj9 l0 y162 x10_1 x6_9 l0 (l0.length : Int) x10_1 ((zab l0 x10_1).f0) ((zab l0 x10_1).f1) ((zab l0 x10_1).f2) ((zab l0 x10_1).f3)) = some r := by first | (rw [hy162]; with_reducible exact H) | (have H2_ := (Option.bind_some _ _).symm.trans H; rw [hy162]; with_reducible exact H2_) | (have H2_ := (Option.bind_some _ _).symm.trans H; with_reducible exact H2_) | with_reducible exact H | (rw [hy162]; exact H) | exact H
                                          have Ny162 := Aside0.mk hy162
                                          clear hy162
                                          have H' := Aside0.mk H
                                          clear H
                                          go_wp2_with (first | (at_builtin; refine zbx (w0 := w) w.heap.size rfl (.tmp 30) _ 93 9 5 rfl Tryz.underlying93 Tryz.underlying9 info5 u3 x3_1 ((⟨#[60]⟩ : ByteArray) ++ x6_9) rfl rfl ?aO ?aB ?aS ?aL ?_; (case aB => exact (by repeat (first | (with_reducible first | exact HB.out | apply zac | apply zaa | apply zad | refine zak ?_ GE151.out) | exact HB.out))); (case aO => exact (Kd.zcv (by (with_reducible repeat (first | apply Kd.zar | apply Kd.zaq | apply Kd.zax)); exact HO_3.out))); (case aS => exact (zaw (by repeat (first | (with_reducible first | exact HB.out | apply zac | apply zaa | apply zad | refine zak ?_ GE151.out) | exact HB.out)))); (case aL => have := LMc18.out; omega); intro v153 w27 ho0 hb hg; have ho := Kd.zcz (h1 := fun _ => rfl) (ok := fun _ => True) ho0 (fun _ _ => trivial); clear ho0; have hat := True.intro; rw [← Ny152.out] at ho; change Kd.R (Kd.int .u8) 5 w27 w.heap.size (fun _ => True) v153 y152 at ho; have n0_ := Aside0.mk (zbv (g := gb151) (o := .cells #[.int .i64 ((zab l0 x10_1).f0), .int .i64 ((zab l0 x10_1).f1), .string ((zab l0 x10_1).f2), .string ((zab l0 x10_1).f3)] 60 (0, 0)) (by (with_reducible repeat (first | refine zai ?_ _ | refine zal ?_ | refine zaj ?_ _)); exact BK151.out) hg (Kd.R_ne HO_3.out BK151.out (by decide))); have n1_ := Aside0.mk (hb); have n2_ := Aside0.mk (ho); clear BK151; clear HB; clear HO_3; have BK151 := n0_; have HB := n1_; have HO154 := n2_; clear n0_ n1_ n2_; clear ho hb hg hat) | (at_builtin; refine zbx (w0 := w) w.heap.size rfl (.tmp 36) _ 93 9 5 rfl Tryz.underlying93 Tryz.underlying9 info5 v153 y152 (⟨#[32, 120, 109, 108, 110, 115, 58, 68, 61, 34, 68, 65, 86, 58, 34, 32, 120, 109, 108, 110, 115, 58, 67, 61, 34, 117, 114, 110, 58, 105, 101, 116, 102, 58, 112, 97, 114, 97, 109, 115, 58, 120, 109, 108, 58, 110, 115, 58, 99, 97, 114, 100, 100, 97, 118, 34]⟩ : ByteArray) rfl rfl ?aO ?aB ?aS ?aL ?_; (case aB => exact (by repeat (first | (with_reducible first | exact HB.out | apply zac | apply zaa | apply zad | refine zak ?_ GE151.out) | exact HB.out))); (case aO => exact (Kd.zcv (by (with_reducible repeat (first | apply Kd.zar | apply Kd.zaq | apply Kd.zax)); exact HO154.out))); (case aS => exact (zaw (by repeat (first | (with_reducible first | exact HB.out | apply zac | apply zaa | apply zad | refine zak ?_ GE151.out) | exact HB.out)))); (case aL => have := LMc20.out; have hz_ : (⟨#[32, 120, 109, 108, 110, 115, 58, 68, 61, 34, 68, 65, 86, 58, 34, 32, 120, 109, 108, 110, 115, 58, 67, 61, 34, 117, 114, 110, 58, 105, 101, 116, 102, 58, 112, 97, 114, 97, 109, 115, 58, 120, 109, 108, 58, 110, 115, 58, 99, 97, 114, 100, 100, 97, 118, 34]⟩ : ByteArray).size = 56 := rfl; omega); intro v156 w28 ho0 hb hg; have ho := Kd.zcz (h1 := fun _ => rfl) (ok := fun _ => True) ho0 (fun _ _ => trivial); clear ho0; have hat := True.intro; rw [← Ny155.out] at ho; change Kd.R (Kd.int .u8) 5 w28 w.heap.size (fun _ => True) v156 y155 at ho; have n0_ := Aside0.mk (zbv (g := gb151) (o := .cells #[.int .i64 ((zab l0 x10_1).f0), .int .i64 ((zab l0 x10_1).f1), .string ((zab l0 x10_1).f2), .string ((zab l0 x10_1).f3)] 60 (0, 0)) (by (with_reducible repeat (first | refine zai ?_ _ | refine zal ?_ | refine zaj ?_ _)); exact BK151.out) hg (Kd.R_ne HO154.out BK151.out (by decide))); have n1_ := Aside0.mk (hb); have n2_ := Aside0.mk (ho); clear BK151; clear HB; clear HO154; have BK151 := n0_; have HB := n1_; have HO157 := n2_; clear n0_ n1_ n2_; clear ho hb hg hat; have p158 : 0 ≤ ((ji21) : Int) := of_decide_eq_true (by first | (with_reducible assumption) | assumption); have q158 : (ji21) < (l0.length : Int) := of_decide_eq_true (by first | (with_reducible assumption) | assumption); obtain ⟨ad158, e158, hx158_0, hx158_1, hx158_2, hx158_3⟩ := zci HR0.out (ji21) p158 q158; obtain rfl : ad150 = ad158 := (by injection e158); replace hx158_0 := (HB.out.cell (World.block_lt_of_cell? w _ hx158_0)).trans hx158_0; replace hx158_1 := (HB.out.cell (World.block_lt_of_cell? w _ hx158_1)).trans hx158_1; replace hx158_2 := (HB.out.cell (World.block_lt_of_cell? w _ hx158_2)).trans hx158_2; replace hx158_3 := (HB.out.cell (World.block_lt_of_cell? w _ hx158_3)).trans hx158_3; replace p158 := eq_true p158; replace q158 := eq_true q158) | ((with_reducible refine zbl (b := .append) (xs := #[.tmp 45, .tmp 46]) rfl ?_); at_builtin; refine Kd.zcn (Kd.int .u8) (w0 := w) w.heap.size rfl (.tmp 45) (.tmp 46) 93 5 (.int .u8 0) 1 rfl Tryz.underlying93 info5 rfl (by decide) (by omega) v156 y155 47 [.int .u8 47] (fun _ => True) (fun _ => False) rfl rfl ?aP (fun _ hk => hk.elim) ?aF ?aO ?aB ?aS ?aL ?_; (case aP => exact rfl); (case aB => exact (by repeat (first | (with_reducible first | exact HB.out | apply zac | apply zaa | apply zad | refine zak ?_ GE151.out) | exact HB.out))); (case aF => exact (fun _ _ => trivial)); (case aO => exact (by (with_reducible repeat (first | apply Kd.zar | apply Kd.zaq | apply Kd.zax)); exact HO157.out)); (case aS => exact (zaw (by repeat (first | (with_reducible first | exact HB.out | apply zac | apply zaa | apply zad | refine zak ?_ GE151.out) | exact HB.out)))); (case aL => have := LMc25.out; omega); intro v160 w29 ho hb hg hat; rw [← Ny159.out] at ho; have n0_ := Aside0.mk (zbv (g := gb151) (o := .cells #[.int .i64 ((zab l0 x10_1).f0), .int .i64 ((zab l0 x10_1).f1), .string ((zab l0 x10_1).f2), .string ((zab l0 x10_1).f3)] 60 (0, 0)) (by (with_reducible repeat (first | refine zai ?_ _ | refine zal ?_ | refine zaj ?_ _)); exact BK151.out) hg (Kd.R_ne HO157.out BK151.out (by decide))); have n1_ := Aside0.mk (hb); have n2_ := Aside0.mk (ho); clear BK151; clear HB; clear HO157; have BK151 := n0_; have HB := n1_; have HO161 := n2_; clear n0_ n1_ n2_; clear ho hb hg hat) | ((with_reducible refine zbl (b := .append) (xs := #[.tmp 48, .tmp 49]) rfl ?_); at_builtin; refine Kd.zcn (Kd.int .u8) (w0 := w) w.heap.size rfl (.tmp 48) (.tmp 49) 93 5 (.int .u8 0) 1 rfl Tryz.underlying93 info5 rfl (by decide) (by omega) v160 y159 62 [.int .u8 62] (fun _ => True) (fun _ => False) rfl rfl ?aP (fun _ hk => hk.elim) ?aF ?aO ?aB ?aS ?aL ?_; (case aP => exact rfl); (case aB => exact (by repeat (first | (with_reducible first | exact HB.out | apply zac | apply zaa | apply zad | refine zak ?_ GE151.out) | exact HB.out))); (case aF => exact (fun _ _ => trivial)); (case aO => exact (by (with_reducible repeat (first | apply Kd.zar | apply Kd.zaq | apply Kd.zax)); exact HO161.out)); (case aS => exact (zaw (by repeat (first | (with_reducible first | exact HB.out | apply zac | apply zaa | apply zad | refine zak ?_ GE151.out) | exact HB.out)))); (case aL => have := LMc26.out; omega); intro v163 w30 ho hb hg hat; rw [← Ny162.out] at ho; have n0_ := Aside0.mk (zbv (g := gb151) (o := .cells #[.int .i64 ((zab l0 x10_1).f0), .int .i64 ((zab l0 x10_1).f1), .string ((zab l0 x10_1).f2), .string ((zab l0 x10_1).f3)] 60 (0, 0)) (by (with_reducible repeat (first | refine zai ?_ _ | refine zal ?_ | refine zaj ?_ _)); exact BK151.out) hg (Kd.R_ne HO161.out BK151.out (by decide))); have n1_ := Aside0.mk (hb); have n2_ := Aside0.mk (ho); clear BK151; clear HB; clear HO161; have BK151 := n0_; have HB := n1_; have HO164 := n2_; clear n0_ n1_ n2_; clear ho hb hg hat))
                                          go_meet
                                          case rel => exact ⟨_, (y162), H', ⟨by have := HK1.out; have := HJ4.out; have := HJ9.out; first | omega | exact Nat.le_refl _⟩, ⟨by (with_reducible repeat (first | apply Kd.zar | apply Kd.zaq | apply Kd.zax)); exact HO164.out⟩, ⟨by (with_reducible repeat (first | refine zai ?_ _ | refine zal ?_ | refine zaj ?_ _)); exact BK151.out⟩, ⟨by repeat (first | (with_reducible first | exact HB.out | apply zac | apply zaa | apply zad | refine zak ?_ GE151.out) | exact HB.out)⟩⟩
                                        · rw [if_neg c26] at H
                                          exact absurd H (by simp)
                                      · rw [if_neg c25] at H
                                        exact absurd H (by simp)
                                    · rw [if_neg c24] at H
                                      have c24b0 : (((zab l0 (ji21)).f0) == 2) = false := beq_eq_false_iff_ne.mpr c24
                                      have c24b1 : (((zab l0 (ji21)).f0) != 2) = true := bne_iff_ne.mpr c24
                                      by_cases c31 : y155.length < 140737488355328
                                      · rw [if_pos c31] at H
                                        have LMc31 := Aside0.mk c31
                                        clear c31
                                        obtain ⟨y165, hy165⟩ : ∃ y_ : List Int, y_ = (y155 ++ [62]) := ⟨_, rfl⟩
                                        replace H : (zaf.j3 kj9 l0 y165 x10_1 x6_9 l0 (l0.length : Int) x10_1 ((zab l0 x10_1).f0) ((zab l0 x10_1).f1) ((zab l0 x10_1).f2) ((zab l0 x10_1).f3)) = some r := by first | (rw [hy165]; with_reducible exact H) | (have H2_ := (Option.bind_some _ _).symm.trans H; rw [hy165]; with_reducible exact H2_) | (have H2_ := (Option.bind_some _ _).symm.trans H; with_reducible exact H2_) | with_reducible exact H | (rw [hy165]; exact H) | exact H
                                        have Ny165 := Aside0.mk hy165
                                        clear hy165
                                        have H' := Aside0.mk H
                                        clear H
                                        go_wp2_with (first | (at_builtin; refine zbx (w0 := w) w.heap.size rfl (.tmp 30) _ 93 9 5 rfl Tryz.underlying93 Tryz.underlying9 info5 u3 x3_1 ((⟨#[60]⟩ : ByteArray) ++ x6_9) rfl rfl ?aO ?aB ?aS ?aL ?_; (case aB => exact (by repeat (first | (with_reducible first | exact HB.out | apply zac | apply zaa | apply zad | refine zak ?_ GE151.out) | exact HB.out))); (case aO => exact (Kd.zcv (by (with_reducible repeat (first | apply Kd.zar | apply Kd.zaq | apply Kd.zax)); exact HO_3.out))); (case aS => exact (zaw (by repeat (first | (with_reducible first | exact HB.out | apply zac | apply zaa | apply zad | refine zak ?_ GE151.out) | exact HB.out)))); (case aL => have := LMc18.out; omega); intro v153 w32 ho0 hb hg; have ho := Kd.zcz (h1 := fun _ => rfl) (ok := fun _ => True) ho0 (fun _ _ => trivial); clear ho0; have hat := True.intro; rw [← Ny152.out] at ho; change Kd.R (Kd.int .u8) 5 w32 w.heap.size (fun _ => True) v153 y152 at ho; have n0_ := Aside0.mk (zbv (g := gb151) (o := .cells #[.int .i64 ((zab l0 x10_1).f0), .int .i64 ((zab l0 x10_1).f1), .string ((zab l0 x10_1).f2), .string ((zab l0 x10_1).f3)] 60 (0, 0)) (by (with_reducible repeat (first | refine zai ?_ _ | refine zal ?_ | refine zaj ?_ _)); exact BK151.out) hg (Kd.R_ne HO_3.out BK151.out (by decide))); have n1_ := Aside0.mk (hb); have n2_ := Aside0.mk (ho); clear BK151; clear HB; clear HO_3; have BK151 := n0_; have HB := n1_; have HO154 := n2_; clear n0_ n1_ n2_; clear ho hb hg hat) | (at_builtin; refine zbx (w0 := w) w.heap.size rfl (.tmp 36) _ 93 9 5 rfl Tryz.underlying93 Tryz.underlying9 info5 v153 y152 (⟨#[32, 120, 109, 108, 110, 115, 58, 68, 61, 34, 68, 65, 86, 58, 34, 32, 120, 109, 108, 110, 115, 58, 67, 61, 34, 117, 114, 110, 58, 105, 101, 116, 102, 58, 112, 97, 114, 97, 109, 115, 58, 120, 109, 108, 58, 110, 115, 58, 99, 97, 114, 100, 100, 97, 118, 34]⟩ : ByteArray) rfl rfl ?aO ?aB ?aS ?aL ?_; (case aB => exact (by repeat (first | (with_reducible first | exact HB.out | apply zac | apply zaa | apply zad | refine zak ?_ GE151.out) | exact HB.out))); (case aO => exact (Kd.zcv (by (with_reducible repeat (first | apply Kd.zar | apply Kd.zaq | apply Kd.zax)); exact HO154.out))); (case aS => exact (zaw (by repeat (first | (with_reducible first | exact HB.out | apply zac | apply zaa | apply zad | refine zak ?_ GE151.out) | exact HB.out)))); (case aL => have := LMc20.out; have hz_ : (⟨#[32, 120, 109, 108, 110, 115, 58, 68, 61, 34, 68, 65, 86, 58, 34, 32, 120, 109, 108, 110, 115, 58, 67, 61, 34, 117, 114, 110, 58, 105, 101, 116, 102, 58, 112, 97, 114, 97, 109, 115, 58, 120, 109, 108, 58, 110, 115, 58, 99, 97, 114, 100, 100, 97, 118, 34]⟩ : ByteArray).size = 56 := rfl; omega); intro v156 w33 ho0 hb hg; have ho := Kd.zcz (h1 := fun _ => rfl) (ok := fun _ => True) ho0 (fun _ _ => trivial); clear ho0; have hat := True.intro; rw [← Ny155.out] at ho; change Kd.R (Kd.int .u8) 5 w33 w.heap.size (fun _ => True) v156 y155 at ho; have n0_ := Aside0.mk (zbv (g := gb151) (o := .cells #[.int .i64 ((zab l0 x10_1).f0), .int .i64 ((zab l0 x10_1).f1), .string ((zab l0 x10_1).f2), .string ((zab l0 x10_1).f3)] 60 (0, 0)) (by (with_reducible repeat (first | refine zai ?_ _ | refine zal ?_ | refine zaj ?_ _)); exact BK151.out) hg (Kd.R_ne HO154.out BK151.out (by decide))); have n1_ := Aside0.mk (hb); have n2_ := Aside0.mk (ho); clear BK151; clear HB; clear HO154; have BK151 := n0_; have HB := n1_; have HO157 := n2_; clear n0_ n1_ n2_; clear ho hb hg hat; have p158 : 0 ≤ ((ji21) : Int) := of_decide_eq_true (by first | (with_reducible assumption) | assumption); have q158 : (ji21) < (l0.length : Int) := of_decide_eq_true (by first | (with_reducible assumption) | assumption); obtain ⟨ad158, e158, hx158_0, hx158_1, hx158_2, hx158_3⟩ := zci HR0.out (ji21) p158 q158; obtain rfl : ad150 = ad158 := (by injection e158); replace hx158_0 := (HB.out.cell (World.block_lt_of_cell? w _ hx158_0)).trans hx158_0; replace hx158_1 := (HB.out.cell (World.block_lt_of_cell? w _ hx158_1)).trans hx158_1; replace hx158_2 := (HB.out.cell (World.block_lt_of_cell? w _ hx158_2)).trans hx158_2; replace hx158_3 := (HB.out.cell (World.block_lt_of_cell? w _ hx158_3)).trans hx158_3; replace p158 := eq_true p158; replace q158 := eq_true q158) | ((with_reducible refine zbl (b := .append) (xs := #[.tmp 48, .tmp 49]) rfl ?_); at_builtin; refine Kd.zcn (Kd.int .u8) (w0 := w) w.heap.size rfl (.tmp 48) (.tmp 49) 93 5 (.int .u8 0) 1 rfl Tryz.underlying93 info5 rfl (by decide) (by omega) v156 y155 62 [.int .u8 62] (fun _ => True) (fun _ => False) rfl rfl ?aP (fun _ hk => hk.elim) ?aF ?aO ?aB ?aS ?aL ?_; (case aP => exact rfl); (case aB => exact (by repeat (first | (with_reducible first | exact HB.out | apply zac | apply zaa | apply zad | refine zak ?_ GE151.out) | exact HB.out))); (case aF => exact (fun _ _ => trivial)); (case aO => exact (by (with_reducible repeat (first | apply Kd.zar | apply Kd.zaq | apply Kd.zax)); exact HO157.out)); (case aS => exact (zaw (by repeat (first | (with_reducible first | exact HB.out | apply zac | apply zaa | apply zad | refine zak ?_ GE151.out) | exact HB.out)))); (case aL => have := LMc31.out; omega); intro v166 w34 ho hb hg hat; rw [← Ny165.out] at ho; have n0_ := Aside0.mk (zbv (g := gb151) (o := .cells #[.int .i64 ((zab l0 x10_1).f0), .int .i64 ((zab l0 x10_1).f1), .string ((zab l0 x10_1).f2), .string ((zab l0 x10_1).f3)] 60 (0, 0)) (by (with_reducible repeat (first | refine zai ?_ _ | refine zal ?_ | refine zaj ?_ _)); exact BK151.out) hg (Kd.R_ne HO157.out BK151.out (by decide))); have n1_ := Aside0.mk (hb); have n2_ := Aside0.mk (ho); clear BK151; clear HB; clear HO157; have BK151 := n0_; have HB := n1_; have HO167 := n2_; clear n0_ n1_ n2_; clear ho hb hg hat))
                                        go_meet
                                        case rel => exact ⟨_, (y165), H', ⟨by have := HK1.out; have := HJ4.out; have := HJ9.out; first | omega | exact Nat.le_refl _⟩, ⟨by (with_reducible repeat (first | apply Kd.zar | apply Kd.zaq | apply Kd.zax)); exact HO167.out⟩, ⟨by (with_reducible repeat (first | refine zai ?_ _ | refine zal ?_ | refine zaj ?_ _)); exact BK151.out⟩, ⟨by repeat (first | (with_reducible first | exact HB.out | apply zac | apply zaa | apply zad | refine zak ?_ GE151.out) | exact HB.out)⟩⟩
                                      · rw [if_neg c31] at H
                                        exact absurd H (by simp)
                                  · rw [if_neg c23] at H
                                    exact absurd H (by simp)
                                · rw [if_neg c22] at H
                                  exact absurd H (by simp)
                              · rw [if_neg c20] at H
                                exact absurd H (by simp)
                            · rw [if_neg c19] at H
                              have c19b0 : (x10_1 == 0) = false := beq_eq_false_iff_ne.mpr c19
                              have c19b1 : (x10_1 != 0) = true := bne_iff_ne.mpr c19
                              obtain ⟨ji35, hji35⟩ : ∃ j_ : Int, (wrap64 (x10_1 + 1)) = j_ := ⟨_, rfl⟩
                              replace H : (if 0 ≤ (ji35) then (if (ji35) < (l0.length : Int) then (if ((zab l0 (ji35)).f0) = 2 then (if y152.length < 140737488355328 then ((some (y152 ++ [47] : List Int)).bind fun y169 => (if y169.length < 140737488355328 then (zaf.j3 kj9 l0 (y169 ++ [62]) x10_1 x6_9 l0 (l0.length : Int) x10_1 ((zab l0 x10_1).f0) ((zab l0 x10_1).f1) ((zab l0 x10_1).f2) ((zab l0 x10_1).f3)) else (none))) else (none)) else (if y152.length < 140737488355328 then (zaf.j3 kj9 l0 (y152 ++ [62]) x10_1 x6_9 l0 (l0.length : Int) x10_1 ((zab l0 x10_1).f0) ((zab l0 x10_1).f1) ((zab l0 x10_1).f2) ((zab l0 x10_1).f3)) else (none))) else (none)) else (none)) = some r := by first | (rw [hji35] at H; exact H) | (simp only [hji35] at H ⊢; exact H)
                              have hji35w : (IntKind.i64.wrap (x10_1 + 1)) = ji35 := (zco _).trans hji35
                              by_cases c36 : 0 ≤ (ji35)
                              · rw [if_pos c36] at H
                                have c36b0 : decide (0 ≤ (ji35)) = true := decide_eq_true c36
                                clear c36
                                by_cases c37 : (ji35) < (l0.length : Int)
                                · rw [if_pos c37] at H
                                  have c37b0 : decide ((ji35) < (l0.length : Int)) = true := decide_eq_true c37
                                  clear c37
                                  by_cases c38 : ((zab l0 (ji35)).f0) = 2
                                  · rw [if_pos c38] at H
                                    have c38b0 : (((zab l0 (ji35)).f0) == 2) = true := beq_iff_eq.mpr c38
                                    have c38b1 : (((zab l0 (ji35)).f0) != 2) = false := bne_eq_false_iff_eq.mpr c38
                                    clear c38
                                    by_cases c39 : y152.length < 140737488355328
                                    · rw [if_pos c39] at H
                                      have LMc39 := Aside0.mk c39
                                      clear c39
                                      obtain ⟨y169, hy169⟩ : ∃ y_ : List Int, y_ = (y152 ++ [47]) := ⟨_, rfl⟩
                                      replace H : (if y169.length < 140737488355328 then (zaf.j3 kj9 l0 (y169 ++ [62]) x10_1 x6_9 l0 (l0.length : Int) x10_1 ((zab l0 x10_1).f0) ((zab l0 x10_1).f1) ((zab l0 x10_1).f2) ((zab l0 x10_1).f3)) else (none)) = some r := by first | (rw [hy169]; with_reducible exact H) | (have H2_ := (Option.bind_some _ _).symm.trans H; rw [hy169]; with_reducible exact H2_) | (have H2_ := (Option.bind_some _ _).symm.trans H; with_reducible exact H2_) | with_reducible exact H | (rw [hy169]; exact H) | exact H
                                      have Ny169 := Aside0.mk hy169
                                      clear hy169
                                      by_cases c40 : y169.length < 140737488355328
                                      · rw [if_pos c40] at H
                                        have LMc40 := Aside0.mk c40
                                        clear c40
                                        obtain ⟨y172, hy172⟩ : ∃ y_ : List Int, y_ = (y169 ++ [62]) := ⟨_, rfl⟩
                                        replace H : (zaf.j3 kj9 l0 y172 x10_1 x6_9 l0 (l0.length : Int) x10_1 ((zab l0 x10_1).f0) ((zab l0 x10_1).f1) ((zab l0 x10_1).f2) ((zab l0 x10_1).f3)) = some r := by first | (rw [hy172]; with_reducible exact H) | (have H2_ := (Option.bind_some _ _).symm.trans H; rw [hy172]; with_reducible exact H2_) | (have H2_ := (Option.bind_some _ _).symm.trans H; with_reducible exact H2_) | with_reducible exact H | (rw [hy172]; exact H) | exact H
                                        have Ny172 := Aside0.mk hy172
                                        clear hy172
                                        have H' := Aside0.mk H
                                        clear H
                                        go_wp2_with (first | (at_builtin; refine zbx (w0 := w) w.heap.size rfl (.tmp 30) _ 93 9 5 rfl Tryz.underlying93 Tryz.underlying9 info5 u3 x3_1 ((⟨#[60]⟩ : ByteArray) ++ x6_9) rfl rfl ?aO ?aB ?aS ?aL ?_; (case aB => exact (by repeat (first | (with_reducible first | exact HB.out | apply zac | apply zaa | apply zad | refine zak ?_ GE151.out) | exact HB.out))); (case aO => exact (Kd.zcv (by (with_reducible repeat (first | apply Kd.zar | apply Kd.zaq | apply Kd.zax)); exact HO_3.out))); (case aS => exact (zaw (by repeat (first | (with_reducible first | exact HB.out | apply zac | apply zaa | apply zad | refine zak ?_ GE151.out) | exact HB.out)))); (case aL => have := LMc18.out; omega); intro v153 w41 ho0 hb hg; have ho := Kd.zcz (h1 := fun _ => rfl) (ok := fun _ => True) ho0 (fun _ _ => trivial); clear ho0; have hat := True.intro; rw [← Ny152.out] at ho; change Kd.R (Kd.int .u8) 5 w41 w.heap.size (fun _ => True) v153 y152 at ho; have n0_ := Aside0.mk (zbv (g := gb151) (o := .cells #[.int .i64 ((zab l0 x10_1).f0), .int .i64 ((zab l0 x10_1).f1), .string ((zab l0 x10_1).f2), .string ((zab l0 x10_1).f3)] 60 (0, 0)) (by (with_reducible repeat (first | refine zai ?_ _ | refine zal ?_ | refine zaj ?_ _)); exact BK151.out) hg (Kd.R_ne HO_3.out BK151.out (by decide))); have n1_ := Aside0.mk (hb); have n2_ := Aside0.mk (ho); clear BK151; clear HB; clear HO_3; have BK151 := n0_; have HB := n1_; have HO154 := n2_; clear n0_ n1_ n2_; clear ho hb hg hat; have p168 : 0 ≤ ((ji35) : Int) := of_decide_eq_true (by first | (with_reducible assumption) | assumption); have q168 : (ji35) < (l0.length : Int) := of_decide_eq_true (by first | (with_reducible assumption) | assumption); obtain ⟨ad168, e168, hx168_0, hx168_1, hx168_2, hx168_3⟩ := zci HR0.out (ji35) p168 q168; obtain rfl : ad150 = ad168 := (by injection e168); replace hx168_0 := (HB.out.cell (World.block_lt_of_cell? w _ hx168_0)).trans hx168_0; replace hx168_1 := (HB.out.cell (World.block_lt_of_cell? w _ hx168_1)).trans hx168_1; replace hx168_2 := (HB.out.cell (World.block_lt_of_cell? w _ hx168_2)).trans hx168_2; replace hx168_3 := (HB.out.cell (World.block_lt_of_cell? w _ hx168_3)).trans hx168_3; replace p168 := eq_true p168; replace q168 := eq_true q168) | ((with_reducible refine zbl (b := .append) (xs := #[.tmp 45, .tmp 46]) rfl ?_); at_builtin; refine Kd.zcn (Kd.int .u8) (w0 := w) w.heap.size rfl (.tmp 45) (.tmp 46) 93 5 (.int .u8 0) 1 rfl Tryz.underlying93 info5 rfl (by decide) (by omega) v153 y152 47 [.int .u8 47] (fun _ => True) (fun _ => False) rfl rfl ?aP (fun _ hk => hk.elim) ?aF ?aO ?aB ?aS ?aL ?_; (case aP => exact rfl); (case aB => exact (by repeat (first | (with_reducible first | exact HB.out | apply zac | apply zaa | apply zad | refine zak ?_ GE151.out) | exact HB.out))); (case aF => exact (fun _ _ => trivial)); (case aO => exact (by (with_reducible repeat (first | apply Kd.zar | apply Kd.zaq | apply Kd.zax)); exact HO154.out)); (case aS => exact (zaw (by repeat (first | (with_reducible first | exact HB.out | apply zac | apply zaa | apply zad | refine zak ?_ GE151.out) | exact HB.out)))); (case aL => have := LMc39.out; omega); intro v170 w42 ho hb hg hat; rw [← Ny169.out] at ho; have n0_ := Aside0.mk (zbv (g := gb151) (o := .cells #[.int .i64 ((zab l0 x10_1).f0), .int .i64 ((zab l0 x10_1).f1), .string ((zab l0 x10_1).f2), .string ((zab l0 x10_1).f3)] 60 (0, 0)) (by (with_reducible repeat (first | refine zai ?_ _ | refine zal ?_ | refine zaj ?_ _)); exact BK151.out) hg (Kd.R_ne HO154.out BK151.out (by decide))); have n1_ := Aside0.mk (hb); have n2_ := Aside0.mk (ho); clear BK151; clear HB; clear HO154; have BK151 := n0_; have HB := n1_; have HO171 := n2_; clear n0_ n1_ n2_; clear ho hb hg hat) | ((with_reducible refine zbl (b := .append) (xs := #[.tmp 48, .tmp 49]) rfl ?_); at_builtin; refine Kd.zcn (Kd.int .u8) (w0 := w) w.heap.size rfl (.tmp 48) (.tmp 49) 93 5 (.int .u8 0) 1 rfl Tryz.underlying93 info5 rfl (by decide) (by omega) v170 y169 62 [.int .u8 62] (fun _ => True) (fun _ => False) rfl rfl ?aP (fun _ hk => hk.elim) ?aF ?aO ?aB ?aS ?aL ?_; (case aP => exact rfl); (case aB => exact (by repeat (first | (with_reducible first | exact HB.out | apply zac | apply zaa | apply zad | refine zak ?_ GE151.out) | exact HB.out))); (case aF => exact (fun _ _ => trivial)); (case aO => exact (by (with_reducible repeat (first | apply Kd.zar | apply Kd.zaq | apply Kd.zax)); exact HO171.out)); (case aS => exact (zaw (by repeat (first | (with_reducible first | exact HB.out | apply zac | apply zaa | apply zad | refine zak ?_ GE151.out) | exact HB.out)))); (case aL => have := LMc40.out; omega); intro v173 w43 ho hb hg hat; rw [← Ny172.out] at ho; have n0_ := Aside0.mk (zbv (g := gb151) (o := .cells #[.int .i64 ((zab l0 x10_1).f0), .int .i64 ((zab l0 x10_1).f1), .string ((zab l0 x10_1).f2), .string ((zab l0 x10_1).f3)] 60 (0, 0)) (by (with_reducible repeat (first | refine zai ?_ _ | refine zal ?_ | refine zaj ?_ _)); exact BK151.out) hg (Kd.R_ne HO171.out BK151.out (by decide))); have n1_ := Aside0.mk (hb); have n2_ := Aside0.mk (ho); clear BK151; clear HB; clear HO171; have BK151 := n0_; have HB := n1_; have HO174 := n2_; clear n0_ n1_ n2_; clear ho hb hg hat))
                                        go_meet
                                        case rel => exact ⟨_, (y172), H', ⟨by have := HK1.out; have := HJ4.out; have := HJ9.out; first | omega | exact Nat.le_refl _⟩, ⟨by (with_reducible repeat (first | apply Kd.zar | apply Kd.zaq | apply Kd.zax)); exact HO174.out⟩, ⟨by (with_reducible repeat (first | refine zai ?_ _ | refine zal ?_ | refine zaj ?_ _)); exact BK151.out⟩, ⟨by repeat (first | (with_reducible first | exact HB.out | apply zac | apply zaa | apply zad | refine zak ?_ GE151.out) | exact HB.out)⟩⟩
                                      · rw [if_neg c40] at H
                                        exact absurd H (by simp)
                                    · rw [if_neg c39] at H
                                      exact absurd H (by simp)
                                  · rw [if_neg c38] at H
                                    have c38b0 : (((zab l0 (ji35)).f0) == 2) = false := beq_eq_false_iff_ne.mpr c38
                                    have c38b1 : (((zab l0 (ji35)).f0) != 2) = true := bne_iff_ne.mpr c38
                                    by_cases c44 : y152.length < 140737488355328
                                    · rw [if_pos c44] at H
                                      have LMc44 := Aside0.mk c44
                                      clear c44
                                      obtain ⟨y175, hy175⟩ : ∃ y_ : List Int, y_ = (y152 ++ [62]) := ⟨_, rfl⟩
                                      replace H : (zaf.j3 kj9 l0 y175 x10_1 x6_9 l0 (l0.length : Int) x10_1 ((zab l0 x10_1).f0) ((zab l0 x10_1).f1) ((zab l0 x10_1).f2) ((zab l0 x10_1).f3)) = some r := by first | (rw [hy175]; with_reducible exact H) | (have H2_ := (Option.bind_some _ _).symm.trans H; rw [hy175]; with_reducible exact H2_) | (have H2_ := (Option.bind_some _ _).symm.trans H; with_reducible exact H2_) | with_reducible exact H | (rw [hy175]; exact H) | exact H
                                      have Ny175 := Aside0.mk hy175
                                      clear hy175
                                      have H' := Aside0.mk H
                                      clear H
                                      go_wp2_with (first | (at_builtin; refine zbx (w0 := w) w.heap.size rfl (.tmp 30) _ 93 9 5 rfl Tryz.underlying93 Tryz.underlying9 info5 u3 x3_1 ((⟨#[60]⟩ : ByteArray) ++ x6_9) rfl rfl ?aO ?aB ?aS ?aL ?_; (case aB => exact (by repeat (first | (with_reducible first | exact HB.out | apply zac | apply zaa | apply zad | refine zak ?_ GE151.out) | exact HB.out))); (case aO => exact (Kd.zcv (by (with_reducible repeat (first | apply Kd.zar | apply Kd.zaq | apply Kd.zax)); exact HO_3.out))); (case aS => exact (zaw (by repeat (first | (with_reducible first | exact HB.out | apply zac | apply zaa | apply zad | refine zak ?_ GE151.out) | exact HB.out)))); (case aL => have := LMc18.out; omega); intro v153 w45 ho0 hb hg; have ho := Kd.zcz (h1 := fun _ => rfl) (ok := fun _ => True) ho0 (fun _ _ => trivial); clear ho0; have hat := True.intro; rw [← Ny152.out] at ho; change Kd.R (Kd.int .u8) 5 w45 w.heap.size (fun _ => True) v153 y152 at ho; have n0_ := Aside0.mk (zbv (g := gb151) (o := .cells #[.int .i64 ((zab l0 x10_1).f0), .int .i64 ((zab l0 x10_1).f1), .string ((zab l0 x10_1).f2), .string ((zab l0 x10_1).f3)] 60 (0, 0)) (by (with_reducible repeat (first | refine zai ?_ _ | refine zal ?_ | refine zaj ?_ _)); exact BK151.out) hg (Kd.R_ne HO_3.out BK151.out (by decide))); have n1_ := Aside0.mk (hb); have n2_ := Aside0.mk (ho); clear BK151; clear HB; clear HO_3; have BK151 := n0_; have HB := n1_; have HO154 := n2_; clear n0_ n1_ n2_; clear ho hb hg hat; have p168 : 0 ≤ ((ji35) : Int) := of_decide_eq_true (by first | (with_reducible assumption) | assumption); have q168 : (ji35) < (l0.length : Int) := of_decide_eq_true (by first | (with_reducible assumption) | assumption); obtain ⟨ad168, e168, hx168_0, hx168_1, hx168_2, hx168_3⟩ := zci HR0.out (ji35) p168 q168; obtain rfl : ad150 = ad168 := (by injection e168); replace hx168_0 := (HB.out.cell (World.block_lt_of_cell? w _ hx168_0)).trans hx168_0; replace hx168_1 := (HB.out.cell (World.block_lt_of_cell? w _ hx168_1)).trans hx168_1; replace hx168_2 := (HB.out.cell (World.block_lt_of_cell? w _ hx168_2)).trans hx168_2; replace hx168_3 := (HB.out.cell (World.block_lt_of_cell? w _ hx168_3)).trans hx168_3; replace p168 := eq_true p168; replace q168 := eq_true q168) | ((with_reducible refine zbl (b := .append) (xs := #[.tmp 48, .tmp 49]) rfl ?_); at_builtin; refine Kd.zcn (Kd.int .u8) (w0 := w) w.heap.size rfl (.tmp 48) (.tmp 49) 93 5 (.int .u8 0) 1 rfl Tryz.underlying93 info5 rfl (by decide) (by omega) v153 y152 62 [.int .u8 62] (fun _ => True) (fun _ => False) rfl rfl ?aP (fun _ hk => hk.elim) ?aF ?aO ?aB ?aS ?aL ?_; (case aP => exact rfl); (case aB => exact (by repeat (first | (with_reducible first | exact HB.out | apply zac | apply zaa | apply zad | refine zak ?_ GE151.out) | exact HB.out))); (case aF => exact (fun _ _ => trivial)); (case aO => exact (by (with_reducible repeat (first | apply Kd.zar | apply Kd.zaq | apply Kd.zax)); exact HO154.out)); (case aS => exact (zaw (by repeat (first | (with_reducible first | exact HB.out | apply zac | apply zaa | apply zad | refine zak ?_ GE151.out) | exact HB.out)))); (case aL => have := LMc44.out; omega); intro v176 w46 ho hb hg hat; rw [← Ny175.out] at ho; have n0_ := Aside0.mk (zbv (g := gb151) (o := .cells #[.int .i64 ((zab l0 x10_1).f0), .int .i64 ((zab l0 x10_1).f1), .string ((zab l0 x10_1).f2), .string ((zab l0 x10_1).f3)] 60 (0, 0)) (by (with_reducible repeat (first | refine zai ?_ _ | refine zal ?_ | refine zaj ?_ _)); exact BK151.out) hg (Kd.R_ne HO154.out BK151.out (by decide))); have n1_ := Aside0.mk (hb); have n2_ := Aside0.mk (ho); clear BK151; clear HB; clear HO154; have BK151 := n0_; have HB := n1_; have HO177 := n2_; clear n0_ n1_ n2_; clear ho hb hg hat))
                                      go_meet
                                      case rel => exact ⟨_, (y175), H', ⟨by have := HK1.out; have := HJ4.out; have := HJ9.out; first | omega | exact Nat.le_refl _⟩, ⟨by (with_reducible repeat (first | apply Kd.zar | apply Kd.zaq | apply Kd.zax)); exact HO177.out⟩, ⟨by (with_reducible repeat (first | refine zai ?_ _ | refine zal ?_ | refine zaj ?_ _)); exact BK151.out⟩, ⟨by repeat (first | (with_reducible first | exact HB.out | apply zac | apply zaa | apply zad | refine zak ?_ GE151.out) | exact HB.out)⟩⟩
                                    · rw [if_neg c44] at H
                                      exact absurd H (by simp)
                                · rw [if_neg c37] at H
                                  exact absurd H (by simp)
                              · rw [if_neg c36] at H
                                exact absurd H (by simp)
                          · rw [if_neg c18] at H
                            have c18e := c18
                            (try simp only [ByteArray.size_append, gt_iff_lt, ge_iff_le, show (⟨#[60]⟩ : ByteArray).size = 1 from rfl] at c18e)
                            (try simp only [Int.natCast_add, Int.cast_ofNat_Int] at c18e)
                            (try (have c18e2 := decide_eq_false c18e))
                            (try replace c18e := eq_false c18e)
                            exact absurd H (by simp)
                        · rw [if_neg c17] at H
                          exact absurd H (by simp)
                      · rw [if_neg c16] at H
                        have c16b0 : (((zab l0 x10_1).f0) == 1) = false := beq_eq_false_iff_ne.mpr c16
                        have c16b1 : (((zab l0 x10_1).f0) != 1) = true := bne_iff_ne.mpr c16
                        (first | rw [c16b0] | rw [c16b1] | (simp only [zco, zcw]; rw [c16b0]) | skip)
                        have H' := Aside0.mk H
                        clear H
                        go_wp2
                        go_meet
                        case rel => exact ⟨_, (x3_1), H', ⟨by have := HK1.out; have := HJ4.out; have := HJ9.out; first | omega | exact Nat.le_refl _⟩, ⟨by (with_reducible repeat (first | apply Kd.zar | apply Kd.zaq | apply Kd.zax)); exact HO_3.out⟩, ⟨by (with_reducible repeat (first | refine zai ?_ _ | refine zal ?_ | refine zaj ?_ _)); exact BK151.out⟩, ⟨by repeat (first | (with_reducible first | exact HB.out | apply zac | apply zaa | apply zad | refine zak ?_ GE151.out) | exact HB.out)⟩⟩
                    case rest =>
                      clear HC14
                      try clear c1
                      try clear p1
                      try clear q1
                      try clear hx1
                      try clear c2
                      try clear c2b0
                      try clear p2
                      try clear c3
                      try clear c3b0
                      try clear c4
                      try clear c4b0
                      try clear p6
                      try clear c8
                      try clear c8b0
                      try clear c8b1
                      try clear c9
                      try clear c9b0
                      try clear c9b1
                      try clear c9b2
                      try clear c12
                      try clear c12b0
                      try clear c12b1
                      try clear c13
                      try clear c13b0
                      try clear c13b1
                      try clear c13b2
                      try clear p15
                      try clear q15
                      try clear hx15
                      try clear c16
                      try clear c16b0
                      try clear c16b1
                      try clear p16
                      try clear q16
                      try clear hx16
                      try clear c17
                      try clear c17b0
                      try clear c17b1
                      try clear c17b2
                      try clear c18
                      try clear c19
                      try clear c19b0
                      try clear c19b1
                      try clear c20
                      try clear c22
                      try clear c22b0
                      try clear c23
                      try clear c23b0
                      try clear c24
                      try clear c24b0
                      try clear c24b1
                      try clear c25
                      try clear c26
                      try clear c31
                      try clear c36
                      try clear c36b0
                      try clear c37
                      try clear c37b0
                      try clear c38
                      try clear c38b0
                      try clear c38b1
                      try clear c39
                      try clear c40
                      try clear c44
                      try clear hcz11_0
                      try clear hcz11_1
                      try clear hcz11_2
                      try clear hcz11_3
                      try clear hcz15_0
                      try clear hcz15_1
                      try clear hcz15_2
                      try clear hcz15_3
                      try clear hcz7_0
                      try clear hcz7_1
                      try clear hcz7_2
                      try clear hcz7_3
                      try clear hfz11_0
                      try clear hfz11_1
                      try clear hfz11_2
                      try clear hfz11_3
                      try clear hfz15_0
                      try clear hfz15_1
                      try clear hfz15_2
                      try clear hfz15_3
                      try clear hfz7_0
                      try clear hfz7_1
                      try clear hfz7_2
                      try clear hfz7_3
                      try clear hx150_0
                      try clear hx150_1
                      try clear hx150_2
                      try clear hx150_3
                      try clear hx158_0
                      try clear hx158_1
                      try clear hx158_2
                      try clear hx158_3
                      try clear hx168_0
                      try clear hx168_1
                      try clear hx168_2
                      try clear hx168_3
                      try clear p1
                      try clear p150
                      try clear p158
                      try clear p168
                      try clear p2
                      try clear q1
                      try clear q150
                      try clear q158
                      try clear q168
                      obtain ⟨kq, x3_13, HA, HJ13, HO_3, BK151, HB⟩ := hcut
                      cases kq with
                      | zero => exact absurd HA.out (by simp [zaf.j3])
                      | succ kj13 =>
                        have H := HA.out
                        clear HA
                        simp only [zaf.j3] at H
                        have HC47 := Aside0.mk H
                        clear H
                        go_upto_region 17 with (fail)
                        go_cut [62] (fun v62 wc => ∃ (kq : Nat) (x62_46 : Bool), v62 = .bool x62_46 ∧ Aside0 (zaf.j4 kq l0 x3_13 x6_9 l0 (l0.length : Int) x10_1 x62_46 ((zab l0 x10_1).f0) ((zab l0 x10_1).f1) ((zab l0 x10_1).f2) ((zab l0 x10_1).f3) = some r) ∧ Aside0 (kq ≤ kj13) ∧ Aside0 (Kd.R (Kd.int .u8) 5 wc w.heap.size (fun _ => True) u3 x3_13) ∧ Aside0 (wc.heap[gb151]? = some (.cells #[.int .i64 ((zab l0 x10_1).f0), .int .i64 ((zab l0 x10_1).f1), .string ((zab l0 x10_1).f2), .string ((zab l0 x10_1).f3)] 60 (0, 0))) ∧ Aside0 (Below w.heap.size w wc))
                        case first =>
                          have H := HC47.out
                          clear HC47
                          by_cases c48 : ((zab l0 x10_1).f0) = 2
                          · rw [if_pos c48] at H
                            have c48b0 : (((zab l0 x10_1).f0) == 2) = true := beq_iff_eq.mpr c48
                            have c48b1 : (((zab l0 x10_1).f0) != 2) = false := bne_eq_false_iff_eq.mpr c48
                            clear c48
                            (first | rw [c48b0] | rw [c48b1] | (simp only [zco, zcw]; rw [c48b0]) | skip)
                            obtain ⟨ji49, hji49⟩ : ∃ j_ : Int, (wrap64 (x10_1 - 1)) = j_ := ⟨_, rfl⟩
                            replace H : (if 0 ≤ (ji49) then (if (ji49) < (l0.length : Int) then (zaf.j4 kj13 l0 x3_13 x6_9 l0 (l0.length : Int) x10_1 (((zab l0 (ji49)).f0) != 1) ((zab l0 x10_1).f0) ((zab l0 x10_1).f1) ((zab l0 x10_1).f2) ((zab l0 x10_1).f3)) else (none)) else (none)) = some r := by first | (rw [hji49] at H; exact H) | (simp only [hji49] at H ⊢; exact H)
                            have hji49w : (IntKind.i64.wrap (x10_1 - 1)) = ji49 := (zco _).trans hji49
                            by_cases c50 : 0 ≤ (ji49)
                            · rw [if_pos c50] at H
                              have c50b0 : decide (0 ≤ (ji49)) = true := decide_eq_true c50
                              clear c50
                              by_cases c51 : (ji49) < (l0.length : Int)
                              · rw [if_pos c51] at H
                                have c51b0 : decide ((ji49) < (l0.length : Int)) = true := decide_eq_true c51
                                clear c51
                                have H' := Aside0.mk H
                                clear H
                                have hcz52_0 : wc.cell? ⟨gb151, 0, none⟩ = some (.int .i64 ((zab l0 x10_1).f0)) := (zag BK151.out 0).trans rfl
                                have hcz52_1 : wc.cell? ⟨gb151, 1, none⟩ = some (.int .i64 ((zab l0 x10_1).f1)) := (zag BK151.out 1).trans rfl
                                have hcz52_2 : wc.cell? ⟨gb151, 2, none⟩ = some (.string ((zab l0 x10_1).f2)) := (zag BK151.out 2).trans rfl
                                have hcz52_3 : wc.cell? ⟨gb151, 3, none⟩ = some (.string ((zab l0 x10_1).f3)) := (zag BK151.out 3).trans rfl
                                have hfz52_0 := zae BK151.out 0
                                have hfz52_1 := zae BK151.out 1
                                have hfz52_2 := zae BK151.out 2
                                have hfz52_3 := zae BK151.out 3
                                have p178 : 0 ≤ ((ji49) : Int) := of_decide_eq_true (by first | (with_reducible assumption) | assumption)
                                have q178 : (ji49) < (l0.length : Int) := of_decide_eq_true (by first | (with_reducible assumption) | assumption)
                                obtain ⟨ad178, e178, hx178_0, hx178_1, hx178_2, hx178_3⟩ := zci HR0.out (ji49) p178 q178
                                obtain rfl : ad150 = ad178 := (by injection e178)
                                replace hx178_0 := (HB.out.cell (World.block_lt_of_cell? w _ hx178_0)).trans hx178_0
                                replace hx178_1 := (HB.out.cell (World.block_lt_of_cell? w _ hx178_1)).trans hx178_1
                                replace hx178_2 := (HB.out.cell (World.block_lt_of_cell? w _ hx178_2)).trans hx178_2
                                replace hx178_3 := (HB.out.cell (World.block_lt_of_cell? w _ hx178_3)).trans hx178_3
                                replace p178 := eq_true p178
                                replace q178 := eq_true q178
                                go_wp2
                                go_meet
                                case rel => exact ⟨_, ((((zab l0 (ji49)).f0) != 1)), (by first | rfl | (simp; done) | (simp only [← hji49] <;> (first | rfl | simp)) | (simp [*]; done)), H', ⟨by have := HK1.out; have := HJ4.out; have := HJ9.out; have := HJ13.out; first | omega | exact Nat.le_refl _⟩, ⟨by (with_reducible repeat (first | apply Kd.zar | apply Kd.zaq | apply Kd.zax)); exact HO_3.out⟩, ⟨by (with_reducible repeat (first | refine zai ?_ _ | refine zal ?_ | refine zaj ?_ _)); exact BK151.out⟩, ⟨by repeat (first | (with_reducible first | exact HB.out | apply zac | apply zaa | apply zad | refine zak ?_ GE151.out) | exact HB.out)⟩⟩
                              · rw [if_neg c51] at H
                                exact absurd H (by simp)
                            · rw [if_neg c50] at H
                              exact absurd H (by simp)
                          · rw [if_neg c48] at H
                            have c48b0 : (((zab l0 x10_1).f0) == 2) = false := beq_eq_false_iff_ne.mpr c48
                            have c48b1 : (((zab l0 x10_1).f0) != 2) = true := bne_iff_ne.mpr c48
                            (first | rw [c48b0] | rw [c48b1] | (simp only [zco, zcw]; rw [c48b0]) | skip)
                            have H' := Aside0.mk H
                            clear H
                            have hcz53_0 : wc.cell? ⟨gb151, 0, none⟩ = some (.int .i64 ((zab l0 x10_1).f0)) := (zag BK151.out 0).trans rfl
                            have hcz53_1 : wc.cell? ⟨gb151, 1, none⟩ = some (.int .i64 ((zab l0 x10_1).f1)) := (zag BK151.out 1).trans rfl
                            have hcz53_2 : wc.cell? ⟨gb151, 2, none⟩ = some (.string ((zab l0 x10_1).f2)) := (zag BK151.out 2).trans rfl
                            have hcz53_3 : wc.cell? ⟨gb151, 3, none⟩ = some (.string ((zab l0 x10_1).f3)) := (zag BK151.out 3).trans rfl
                            have hfz53_0 := zae BK151.out 0
                            have hfz53_1 := zae BK151.out 1
                            have hfz53_2 := zae BK151.out 2
                            have hfz53_3 := zae BK151.out 3
                            go_wp2
                            go_meet
                            case rel => exact ⟨_, (false), (by first | rfl | (simp; done) | (simp [*]; done)), H', ⟨by have := HK1.out; have := HJ4.out; have := HJ9.out; have := HJ13.out; first | omega | exact Nat.le_refl _⟩, ⟨by (with_reducible repeat (first | apply Kd.zar | apply Kd.zaq | apply Kd.zax)); exact HO_3.out⟩, ⟨by (with_reducible repeat (first | refine zai ?_ _ | refine zal ?_ | refine zaj ?_ _)); exact BK151.out⟩, ⟨by repeat (first | (with_reducible first | exact HB.out | apply zac | apply zaa | apply zad | refine zak ?_ GE151.out) | exact HB.out)⟩⟩
                        case rest =>
                          clear HC47
                          try clear c1
                          try clear p1
                          try clear q1
                          try clear hx1
                          try clear c2
                          try clear c2b0
                          try clear p2
                          try clear c3
                          try clear c3b0
                          try clear c4
                          try clear c4b0
                          try clear c5
                          try clear p6
                          try clear c8
                          try clear c8b0
                          try clear c8b1
                          try clear c9
                          try clear c9b0
                          try clear c9b1
                          try clear c9b2
                          try clear c12
                          try clear c12b0
                          try clear c12b1
                          try clear c13
                          try clear c13b0
                          try clear c13b1
                          try clear c13b2
                          try clear p15
                          try clear q15
                          try clear hx15
                          try clear c16
                          try clear c16b0
                          try clear c16b1
                          try clear p16
                          try clear q16
                          try clear hx16
                          try clear c17
                          try clear c17b0
                          try clear c17b1
                          try clear c17b2
                          try clear p17
                          try clear q17
                          try clear hx17
                          try clear c18
                          try clear c19
                          try clear c19b0
                          try clear c19b1
                          try clear c20
                          try clear c22
                          try clear c22b0
                          try clear c23
                          try clear c23b0
                          try clear c24
                          try clear c24b0
                          try clear c24b1
                          try clear c25
                          try clear c26
                          try clear c31
                          try clear c36
                          try clear c36b0
                          try clear c37
                          try clear c37b0
                          try clear c38
                          try clear c38b0
                          try clear c38b1
                          try clear c39
                          try clear c40
                          try clear c44
                          try clear c48
                          try clear c48b0
                          try clear c48b1
                          try clear c50
                          try clear c50b0
                          try clear c51
                          try clear c51b0
                          try clear hcz11_0
                          try clear hcz11_1
                          try clear hcz11_2
                          try clear hcz11_3
                          try clear hcz15_0
                          try clear hcz15_1
                          try clear hcz15_2
                          try clear hcz15_3
                          try clear hcz52_0
                          try clear hcz52_1
                          try clear hcz52_2
                          try clear hcz52_3
                          try clear hcz53_0
                          try clear hcz53_1
                          try clear hcz53_2
                          try clear hcz53_3
                          try clear hcz7_0
                          try clear hcz7_1
                          try clear hcz7_2
                          try clear hcz7_3
                          try clear hfz11_0
                          try clear hfz11_1
                          try clear hfz11_2
                          try clear hfz11_3
                          try clear hfz15_0
                          try clear hfz15_1
                          try clear hfz15_2
                          try clear hfz15_3
                          try clear hfz52_0
                          try clear hfz52_1
                          try clear hfz52_2
                          try clear hfz52_3
                          try clear hfz53_0
                          try clear hfz53_1
                          try clear hfz53_2
                          try clear hfz53_3
                          try clear hfz7_0
                          try clear hfz7_1
                          try clear hfz7_2
                          try clear hfz7_3
                          try clear hx150_0
                          try clear hx150_1
                          try clear hx150_2
                          try clear hx150_3
                          try clear hx158_0
                          try clear hx158_1
                          try clear hx158_2
                          try clear hx158_3
                          try clear hx168_0
                          try clear hx168_1
                          try clear hx168_2
                          try clear hx168_3
                          try clear hx178_0
                          try clear hx178_1
                          try clear hx178_2
                          try clear hx178_3
                          try clear p1
                          try clear p15
                          try clear p150
                          try clear p158
                          try clear p16
                          try clear p168
                          try clear p178
                          try clear p2
                          try clear p6
                          try clear q1
                          try clear q15
                          try clear q150
                          try clear q158
                          try clear q16
                          try clear q168
                          try clear q178
                          obtain ⟨kq, x62_46, rfl, HA, HJ46, HO_3, BK151, HB⟩ := hcut
                          cases kq with
                          | zero => exact absurd HA.out (by simp [zaf.j4])
                          | succ kj46 =>
                            have H := HA.out
                            clear HA
                            simp only [zaf.j4] at H
                            have HC54 := Aside0.mk H
                            clear H
                            go_upto_if 62 with (fail)
                            go_cut [3] (fun v3 wc => ∃ (kq : Nat) (x3_53 : List Int), Aside0 (zaf.j5 kq l0 x3_53 l0 (l0.length : Int) x10_1 ((zab l0 x10_1).f0) ((zab l0 x10_1).f1) ((zab l0 x10_1).f2) ((zab l0 x10_1).f3) = some r) ∧ Aside0 (kq ≤ kj46) ∧ Aside0 (Kd.R (Kd.int .u8) 5 wc w.heap.size (fun _ => True) v3 x3_53) ∧ Aside0 (wc.heap[gb151]? = some (.cells #[.int .i64 ((zab l0 x10_1).f0), .int .i64 ((zab l0 x10_1).f1), .string ((zab l0 x10_1).f2), .string ((zab l0 x10_1).f3)] 60 (0, 0))) ∧ Aside0 (Below w.heap.size w wc))
                            case first =>
                              have H := HC54.out
                              clear HC54
                              by_cases c55 : x62_46 = true
                              · subst c55
                                have H1 : (if 2 + x6_9.size ≤ 9223372036854775807 then (if ((⟨#[60, 47]⟩ : ByteArray) ++ x6_9).size + 1 ≤ 9223372036854775807 then (if x3_13.length + (((⟨#[60, 47]⟩ : ByteArray) ++ x6_9) ++ (⟨#[62]⟩ : ByteArray)).size < 140737488355328 then (zaf.j5 kj46 l0 (x3_13 ++ bytesOf (((⟨#[60, 47]⟩ : ByteArray) ++ x6_9) ++ (⟨#[62]⟩ : ByteArray))) l0 (l0.length : Int) x10_1 ((zab l0 x10_1).f0) ((zab l0 x10_1).f1) ((zab l0 x10_1).f2) ((zab l0 x10_1).f3)) else (none)) else (none)) else (none)) = some r := by rw [if_pos rfl] at H; exact H
                                clear H
                                have H := H1
                                clear H1
                                by_cases c56 : 2 + x6_9.size ≤ 9223372036854775807
                                · rw [if_pos c56] at H
                                  have c56b0 := eq_true c56
                                  have c56b1 : decide (2 + x6_9.size ≤ 9223372036854775807) = true := decide_eq_true c56
                                  try have c56b2 : (9223372036854775807 < 2 + x6_9.size) = False := eq_false (Nat.not_lt.2 c56)
                                  by_cases c57 : ((⟨#[60, 47]⟩ : ByteArray) ++ x6_9).size + 1 ≤ 9223372036854775807
                                  · rw [if_pos c57] at H
                                    have c57e := c57
                                    (try simp only [ByteArray.size_append, gt_iff_lt, ge_iff_le, show (⟨#[60, 47]⟩ : ByteArray).size = 2 from rfl] at c57e)
                                    (try simp only [Int.natCast_add, Int.cast_ofNat_Int] at c57e)
                                    (try (have c57e2 := decide_eq_true c57e))
                                    (try replace c57e := eq_true c57e)
                                    have c57b0 := eq_true c57
                                    have c57b1 : decide (((⟨#[60, 47]⟩ : ByteArray) ++ x6_9).size + 1 ≤ 9223372036854775807) = true := decide_eq_true c57
                                    try have c57b2 : (9223372036854775807 < ((⟨#[60, 47]⟩ : ByteArray) ++ x6_9).size + 1) = False := eq_false (Nat.not_lt.2 c57)
                                    have c57b8 : (9223372036854775807 < 2 + x6_9.size + 1) = False := by have h_ := c57; simp only [ByteArray.size_append] at h_; exact eq_false (Nat.not_lt.2 h_)
                                    by_cases c58 : x3_13.length + (((⟨#[60, 47]⟩ : ByteArray) ++ x6_9) ++ (⟨#[62]⟩ : ByteArray)).size < 140737488355328
                                    · rw [if_pos c58] at H
                                      have c58e := c58
                                      (try simp only [ByteArray.size_append, gt_iff_lt, ge_iff_le, show (⟨#[60, 47]⟩ : ByteArray).size = 2 from rfl, show (⟨#[62]⟩ : ByteArray).size = 1 from rfl] at c58e)
                                      (try simp only [Int.natCast_add, Int.cast_ofNat_Int] at c58e)
                                      (try (have c58e2 := decide_eq_true c58e))
                                      (try replace c58e := eq_true c58e)
                                      have LMc58 := Aside0.mk c58
                                      clear c58
                                      obtain ⟨y179, hy179⟩ : ∃ y_ : List Int, y_ = (x3_13 ++ bytesOf (((⟨#[60, 47]⟩ : ByteArray) ++ x6_9) ++ (⟨#[62]⟩ : ByteArray))) := ⟨_, rfl⟩
                                      replace H : (zaf.j5 kj46 l0 y179 l0 (l0.length : Int) x10_1 ((zab l0 x10_1).f0) ((zab l0 x10_1).f1) ((zab l0 x10_1).f2) ((zab l0 x10_1).f3)) = some r := by first | (rw [hy179]; with_reducible exact H) | (have H2_ := (Option.bind_some _ _).symm.trans H; rw [hy179]; with_reducible exact H2_) | (have H2_ := (Option.bind_some _ _).symm.trans H; with_reducible exact H2_) | with_reducible exact H | (rw [hy179]; exact H) | exact H
                                      have Ny179 := Aside0.mk hy179
                                      clear hy179
                                      have H' := Aside0.mk H
                                      clear H
                                      go_wp2_with (first | (at_builtin; refine zbx (w0 := w) w.heap.size rfl (.tmp 63) _ 93 9 5 rfl Tryz.underlying93 Tryz.underlying9 info5 u3 x3_13 (((⟨#[60, 47]⟩ : ByteArray) ++ x6_9) ++ (⟨#[62]⟩ : ByteArray)) rfl rfl ?aO ?aB ?aS ?aL ?_; (case aB => exact (by repeat (first | (with_reducible first | exact HB.out | apply zac | apply zaa | apply zad | refine zak ?_ GE151.out) | exact HB.out))); (case aO => exact (Kd.zcv (by (with_reducible repeat (first | apply Kd.zar | apply Kd.zaq | apply Kd.zax)); exact HO_3.out))); (case aS => exact (zaw (by repeat (first | (with_reducible first | exact HB.out | apply zac | apply zaa | apply zad | refine zak ?_ GE151.out) | exact HB.out)))); (case aL => have := LMc58.out; omega); intro v180 w59 ho0 hb hg; have ho := Kd.zcz (h1 := fun _ => rfl) (ok := fun _ => True) ho0 (fun _ _ => trivial); clear ho0; have hat := True.intro; rw [← Ny179.out] at ho; change Kd.R (Kd.int .u8) 5 w59 w.heap.size (fun _ => True) v180 y179 at ho; have n0_ := Aside0.mk (zbv (g := gb151) (o := .cells #[.int .i64 ((zab l0 x10_1).f0), .int .i64 ((zab l0 x10_1).f1), .string ((zab l0 x10_1).f2), .string ((zab l0 x10_1).f3)] 60 (0, 0)) (by (with_reducible repeat (first | refine zai ?_ _ | refine zal ?_ | refine zaj ?_ _)); exact BK151.out) hg (Kd.R_ne HO_3.out BK151.out (by decide))); have n1_ := Aside0.mk (hb); have n2_ := Aside0.mk (ho); clear BK151; clear HB; clear HO_3; have BK151 := n0_; have HB := n1_; have HO181 := n2_; clear n0_ n1_ n2_; clear ho hb hg hat))
                                      go_meet
                                      case rel => exact ⟨_, (y179), H', ⟨by have := HK1.out; have := HJ4.out; have := HJ9.out; have := HJ13.out; have := HJ46.out; first | omega | exact Nat.le_refl _⟩, ⟨by (with_reducible repeat (first | apply Kd.zar | apply Kd.zaq | apply Kd.zax)); exact HO181.out⟩, ⟨by (with_reducible repeat (first | refine zai ?_ _ | refine zal ?_ | refine zaj ?_ _)); exact BK151.out⟩, ⟨by repeat (first | (with_reducible first | exact HB.out | apply zac | apply zaa | apply zad | refine zak ?_ GE151.out) | exact HB.out)⟩⟩
                                    · rw [if_neg c58] at H
                                      have c58e := c58
                                      (try simp only [ByteArray.size_append, gt_iff_lt, ge_iff_le, show (⟨#[60, 47]⟩ : ByteArray).size = 2 from rfl, show (⟨#[62]⟩ : ByteArray).size = 1 from rfl] at c58e)
                                      (try simp only [Int.natCast_add, Int.cast_ofNat_Int] at c58e)
                                      (try (have c58e2 := decide_eq_false c58e))
                                      (try replace c58e := eq_false c58e)
                                      exact absurd H (by simp)
                                  · rw [if_neg c57] at H
                                    have c57e := c57
                                    (try simp only [ByteArray.size_append, gt_iff_lt, ge_iff_le, show (⟨#[60, 47]⟩ : ByteArray).size = 2 from rfl] at c57e)
                                    (try simp only [Int.natCast_add, Int.cast_ofNat_Int] at c57e)
                                    (try (have c57e2 := decide_eq_false c57e))
                                    (try replace c57e := eq_false c57e)
                                    exact absurd H (by simp)
                                · rw [if_neg c56] at H
                                  exact absurd H (by simp)
                              · replace c55 := Bool.eq_false_iff.mpr c55
                                subst c55
                                have H1 : (zaf.j5 kj46 l0 x3_13 l0 (l0.length : Int) x10_1 ((zab l0 x10_1).f0) ((zab l0 x10_1).f1) ((zab l0 x10_1).f2) ((zab l0 x10_1).f3)) = some r := by rw [if_neg (show ¬ (false = true) by decide)] at H; exact H
                                clear H
                                have H := H1
                                clear H1
                                have H' := Aside0.mk H
                                clear H
                                go_wp2
                                go_meet
                                case rel => exact ⟨_, (x3_13), H', ⟨by have := HK1.out; have := HJ4.out; have := HJ9.out; have := HJ13.out; have := HJ46.out; first | omega | exact Nat.le_refl _⟩, ⟨by (with_reducible repeat (first | apply Kd.zar | apply Kd.zaq | apply Kd.zax)); exact HO_3.out⟩, ⟨by (with_reducible repeat (first | refine zai ?_ _ | refine zal ?_ | refine zaj ?_ _)); exact BK151.out⟩, ⟨by repeat (first | (with_reducible first | exact HB.out | apply zac | apply zaa | apply zad | refine zak ?_ GE151.out) | exact HB.out)⟩⟩
                            case rest =>
                              clear HC54
                              try clear c1
                              try clear p1
                              try clear q1
                              try clear hx1
                              try clear c2
                              try clear c2b0
                              try clear p2
                              try clear c3
                              try clear c3b0
                              try clear c4
                              try clear c4b0
                              try clear c5
                              try clear p6
                              try clear c8
                              try clear c8b0
                              try clear c8b1
                              try clear c9
                              try clear c9b0
                              try clear c9b1
                              try clear c9b2
                              try clear c12
                              try clear c12b0
                              try clear c12b1
                              try clear c13
                              try clear c13b0
                              try clear c13b1
                              try clear c13b2
                              try clear p15
                              try clear q15
                              try clear hx15
                              try clear c16
                              try clear c16b0
                              try clear c16b1
                              try clear p16
                              try clear q16
                              try clear hx16
                              try clear c17
                              try clear c17b0
                              try clear c17b1
                              try clear c17b2
                              try clear p17
                              try clear q17
                              try clear hx17
                              try clear c18
                              try clear c19
                              try clear c19b0
                              try clear c19b1
                              try clear c20
                              try clear c22
                              try clear c22b0
                              try clear c23
                              try clear c23b0
                              try clear c24
                              try clear c24b0
                              try clear c24b1
                              try clear c25
                              try clear c26
                              try clear c31
                              try clear c36
                              try clear c36b0
                              try clear c37
                              try clear c37b0
                              try clear c38
                              try clear c38b0
                              try clear c38b1
                              try clear c39
                              try clear c40
                              try clear c44
                              try clear c48
                              try clear c48b0
                              try clear c48b1
                              try clear c50
                              try clear c50b0
                              try clear c51
                              try clear c51b0
                              try clear c55
                              try clear c56
                              try clear c56b0
                              try clear c56b1
                              try clear c56b2
                              try clear c57
                              try clear c57b0
                              try clear c57b1
                              try clear c57b2
                              try clear c58
                              try clear hcz11_0
                              try clear hcz11_1
                              try clear hcz11_2
                              try clear hcz11_3
                              try clear hcz15_0
                              try clear hcz15_1
                              try clear hcz15_2
                              try clear hcz15_3
                              try clear hcz52_0
                              try clear hcz52_1
                              try clear hcz52_2
                              try clear hcz52_3
                              try clear hcz53_0
                              try clear hcz53_1
                              try clear hcz53_2
                              try clear hcz53_3
                              try clear hcz7_0
                              try clear hcz7_1
                              try clear hcz7_2
                              try clear hcz7_3
                              try clear hfz11_0
                              try clear hfz11_1
                              try clear hfz11_2
                              try clear hfz11_3
                              try clear hfz15_0
                              try clear hfz15_1
                              try clear hfz15_2
                              try clear hfz15_3
                              try clear hfz52_0
                              try clear hfz52_1
                              try clear hfz52_2
                              try clear hfz52_3
                              try clear hfz53_0
                              try clear hfz53_1
                              try clear hfz53_2
                              try clear hfz53_3
                              try clear hfz7_0
                              try clear hfz7_1
                              try clear hfz7_2
                              try clear hfz7_3
                              try clear hx150_0
                              try clear hx150_1
                              try clear hx150_2
                              try clear hx150_3
                              try clear hx158_0
                              try clear hx158_1
                              try clear hx158_2
                              try clear hx158_3
                              try clear hx168_0
                              try clear hx168_1
                              try clear hx168_2
                              try clear hx168_3
                              try clear hx178_0
                              try clear hx178_1
                              try clear hx178_2
                              try clear hx178_3
                              try clear p1
                              try clear p15
                              try clear p150
                              try clear p158
                              try clear p16
                              try clear p168
                              try clear p17
                              try clear p178
                              try clear p2
                              try clear p6
                              try clear q1
                              try clear q15
                              try clear q150
                              try clear q158
                              try clear q16
                              try clear q168
                              try clear q17
                              try clear q178
                              obtain ⟨kq, x3_53, HA, HJ53, HO_3, BK151, HB⟩ := hcut
                              cases kq with
                              | zero => exact absurd HA.out (by simp [zaf.j5])
                              | succ kj53 =>
                                have H := HA.out
                                clear HA
                                simp only [zaf.j5] at H
                                have H' := Aside0.mk H
                                clear H
                                go_wp2
                                go_loopg [3, 7] kj53 (fun kq v3 v7 w' => ∃ (x3_7 : List Int) (x7_7 : Int), v7 = .int .i64 x7_7 ∧ Aside0 (zaf.l1 kq l0 x3_7 x7_7 l0 (l0.length : Int) x10_1 ((zab l0 x10_1).f0) ((zab l0 x10_1).f1) ((zab l0 x10_1).f2) ((zab l0 x10_1).f3) = some r) ∧ Aside0 (kq ≤ kj53) ∧ Aside0 (Kd.R (Kd.int .u8) 5 w' w.heap.size (fun _ => True) v3 x3_7) ∧ Aside0 (w'.heap[gb151]? = some (.cells #[.int .i64 ((zab l0 x10_1).f0), .int .i64 ((zab l0 x10_1).f1), .string ((zab l0 x10_1).f2), .string ((zab l0 x10_1).f3)] 60 (0, 0))) ∧ Aside0 (Below w.heap.size w w'))
                                case atStart => exact ⟨(x3_53), (0), (by first | rfl | (simp; done) | (simp [*]; done)), H', ⟨Nat.le_refl _⟩, ⟨by (with_reducible repeat (first | apply Kd.zar | apply Kd.zaq | apply Kd.zax)); exact HO_3.out⟩, ⟨by (with_reducible repeat (first | refine zai ?_ _ | refine zal ?_ | refine zaj ?_ _)); exact BK151.out⟩, ⟨by repeat (first | (with_reducible first | exact HB.out | apply zac | apply zaa | apply zad | refine zak ?_ GE151.out) | exact HB.out)⟩⟩
                                case round =>
                                  clear H'
                                  try clear c1
                                  try clear p1
                                  try clear q1
                                  try clear hx1
                                  try clear c2
                                  try clear c2b0
                                  try clear p2
                                  try clear c3
                                  try clear c3b0
                                  try clear c4
                                  try clear c4b0
                                  try clear c5
                                  try clear p6
                                  try clear c8
                                  try clear c8b0
                                  try clear c8b1
                                  try clear c9
                                  try clear c9b0
                                  try clear c9b1
                                  try clear c9b2
                                  try clear c12
                                  try clear c12b0
                                  try clear c12b1
                                  try clear c13
                                  try clear c13b0
                                  try clear c13b1
                                  try clear c13b2
                                  try clear p15
                                  try clear q15
                                  try clear hx15
                                  try clear c16
                                  try clear c16b0
                                  try clear c16b1
                                  try clear p16
                                  try clear q16
                                  try clear hx16
                                  try clear c17
                                  try clear c17b0
                                  try clear c17b1
                                  try clear c17b2
                                  try clear p17
                                  try clear q17
                                  try clear hx17
                                  try clear c18
                                  try clear c19
                                  try clear c19b0
                                  try clear c19b1
                                  try clear c20
                                  try clear c22
                                  try clear c22b0
                                  try clear c23
                                  try clear c23b0
                                  try clear c24
                                  try clear c24b0
                                  try clear c24b1
                                  try clear c25
                                  try clear c26
                                  try clear c31
                                  try clear c36
                                  try clear c36b0
                                  try clear c37
                                  try clear c37b0
                                  try clear c38
                                  try clear c38b0
                                  try clear c38b1
                                  try clear c39
                                  try clear c40
                                  try clear c44
                                  try clear c48
                                  try clear c48b0
                                  try clear c48b1
                                  try clear c50
                                  try clear c50b0
                                  try clear c51
                                  try clear c51b0
                                  try clear c55
                                  try clear c56
                                  try clear c56b0
                                  try clear c56b1
                                  try clear c56b2
                                  try clear c57
                                  try clear c57b0
                                  try clear c57b1
                                  try clear c57b2
                                  try clear c58
                                  try clear hcz11_0
                                  try clear hcz11_1
                                  try clear hcz11_2
                                  try clear hcz11_3
                                  try clear hcz15_0
                                  try clear hcz15_1
                                  try clear hcz15_2
                                  try clear hcz15_3
                                  try clear hcz52_0
                                  try clear hcz52_1
                                  try clear hcz52_2
                                  try clear hcz52_3
                                  try clear hcz53_0
                                  try clear hcz53_1
                                  try clear hcz53_2
                                  try clear hcz53_3
                                  try clear hcz7_0
                                  try clear hcz7_1
                                  try clear hcz7_2
                                  try clear hcz7_3
                                  try clear hfz11_0
                                  try clear hfz11_1
                                  try clear hfz11_2
                                  try clear hfz11_3
                                  try clear hfz15_0
                                  try clear hfz15_1
                                  try clear hfz15_2
                                  try clear hfz15_3
                                  try clear hfz52_0
                                  try clear hfz52_1
                                  try clear hfz52_2
                                  try clear hfz52_3
                                  try clear hfz53_0
                                  try clear hfz53_1
                                  try clear hfz53_2
                                  try clear hfz53_3
                                  try clear hfz7_0
                                  try clear hfz7_1
                                  try clear hfz7_2
                                  try clear hfz7_3
                                  try clear hx150_0
                                  try clear hx150_1
                                  try clear hx150_2
                                  try clear hx150_3
                                  try clear hx158_0
                                  try clear hx158_1
                                  try clear hx158_2
                                  try clear hx158_3
                                  try clear hx168_0
                                  try clear hx168_1
                                  try clear hx168_2
                                  try clear hx168_3
                                  try clear hx178_0
                                  try clear hx178_1
                                  try clear hx178_2
                                  try clear hx178_3
                                  try clear p1
                                  try clear p15
                                  try clear p150
                                  try clear p158
                                  try clear p16
                                  try clear p168
                                  try clear p17
                                  try clear p178
                                  try clear p2
                                  try clear p6
                                  try clear q1
                                  try clear q15
                                  try clear q150
                                  try clear q158
                                  try clear q16
                                  try clear q168
                                  try clear q17
                                  try clear q178
                                  obtain ⟨x3_7, x7_7, rfl, HA, HK7, HO_3, BK151, HB⟩ := hrel
                                  cases gk with
                                  | zero => exact absurd HA.out (by simp [zaf.l1])
                                  | succ k7 =>
                                    have H := HA.out
                                    clear HA
                                    simp only [zaf.l1] at H
                                    by_cases c60 : x7_7 < (((zab l0 x10_1).f3).size : Int)
                                    · rw [if_pos c60] at H
                                      have c60b0 : decide (x7_7 < (((zab l0 x10_1).f3).size : Int)) = true := decide_eq_true c60
                                      clear c60
                                      by_cases c61 : 0 ≤ x7_7
                                      · rw [if_pos c61] at H
                                        have c61b0 : decide (0 ≤ x7_7) = true := decide_eq_true c61
                                        clear c61
                                        by_cases c63 : (bt ((zab l0 x10_1).f3) x7_7) = 38
                                        · rw [if_pos c63] at H
                                          have c63b0 : ((bt ((zab l0 x10_1).f3) x7_7) == 38) = true := beq_iff_eq.mpr c63
                                          have c63b1 : ((bt ((zab l0 x10_1).f3) x7_7) != 38) = false := bne_eq_false_iff_eq.mpr c63
                                          clear c63
                                          by_cases c64 : x3_7.length + 5 < 140737488355328
                                          · rw [if_pos c64] at H
                                            have LMc64 := Aside0.mk c64
                                            clear c64
                                            obtain ⟨y182, hy182⟩ : ∃ y_ : List Int, y_ = (x3_7 ++ bytesOf (⟨#[38, 97, 109, 112, 59]⟩ : ByteArray)) := ⟨_, rfl⟩
                                            replace H : (zaf.l1 k7 l0 y182 (wrap64 (x7_7 + 1)) l0 (l0.length : Int) x10_1 ((zab l0 x10_1).f0) ((zab l0 x10_1).f1) ((zab l0 x10_1).f2) ((zab l0 x10_1).f3)) = some r := by first | (rw [hy182]; with_reducible exact H) | (have H2_ := (Option.bind_some _ _).symm.trans H; rw [hy182]; with_reducible exact H2_) | (have H2_ := (Option.bind_some _ _).symm.trans H; with_reducible exact H2_) | with_reducible exact H | (rw [hy182]; exact H) | exact H
                                            have Ny182 := Aside0.mk hy182
                                            clear hy182
                                            have H' := Aside0.mk H
                                            clear H
                                            have hcz65_0 : wr.cell? ⟨gb151, 0, none⟩ = some (.int .i64 ((zab l0 x10_1).f0)) := (zag BK151.out 0).trans rfl
                                            have hcz65_1 : wr.cell? ⟨gb151, 1, none⟩ = some (.int .i64 ((zab l0 x10_1).f1)) := (zag BK151.out 1).trans rfl
                                            have hcz65_2 : wr.cell? ⟨gb151, 2, none⟩ = some (.string ((zab l0 x10_1).f2)) := (zag BK151.out 2).trans rfl
                                            have hcz65_3 : wr.cell? ⟨gb151, 3, none⟩ = some (.string ((zab l0 x10_1).f3)) := (zag BK151.out 3).trans rfl
                                            have hfz65_0 := zae BK151.out 0
                                            have hfz65_1 := zae BK151.out 1
                                            have hfz65_2 := zae BK151.out 2
                                            have hfz65_3 := zae BK151.out 3
                                            have p62 : 0 ≤ (x7_7 : Int) := of_decide_eq_true (by first | (with_reducible assumption) | assumption)
                                            have q62 : x7_7 < (((zab l0 x10_1).f3).size : Int) := of_decide_eq_true (by first | (with_reducible assumption) | assumption)
                                            have hx62 := zbk ((zab l0 x10_1).f3) x7_7
                                            replace p62 := eq_true p62
                                            replace q62 := eq_true q62
                                            go_wp2_with (first | (at_builtin; refine zbx (w0 := w) w.heap.size rfl (.tmp 88) _ 93 9 5 rfl Tryz.underlying93 Tryz.underlying9 info5 u3 x3_7 (⟨#[38, 97, 109, 112, 59]⟩ : ByteArray) rfl rfl ?aO ?aB ?aS ?aL ?_; (case aB => exact (by repeat (first | (with_reducible first | exact HB.out | apply zac | apply zaa | apply zad | refine zak ?_ GE151.out) | exact HB.out))); (case aO => exact (Kd.zcv (by (with_reducible repeat (first | apply Kd.zar | apply Kd.zaq | apply Kd.zax)); exact HO_3.out))); (case aS => exact (zaw (by repeat (first | (with_reducible first | exact HB.out | apply zac | apply zaa | apply zad | refine zak ?_ GE151.out) | exact HB.out)))); (case aL => have := LMc64.out; have hz_ : (⟨#[38, 97, 109, 112, 59]⟩ : ByteArray).size = 5 := rfl; omega); intro v183 w66 ho0 hb hg; have ho := Kd.zcz (h1 := fun _ => rfl) (ok := fun _ => True) ho0 (fun _ _ => trivial); clear ho0; have hat := True.intro; rw [← Ny182.out] at ho; change Kd.R (Kd.int .u8) 5 w66 w.heap.size (fun _ => True) v183 y182 at ho; have n0_ := Aside0.mk (zbv (g := gb151) (o := .cells #[.int .i64 ((zab l0 x10_1).f0), .int .i64 ((zab l0 x10_1).f1), .string ((zab l0 x10_1).f2), .string ((zab l0 x10_1).f3)] 60 (0, 0)) (by (with_reducible repeat (first | refine zai ?_ _ | refine zal ?_ | refine zaj ?_ _)); exact BK151.out) hg (Kd.R_ne HO_3.out BK151.out (by decide))); have n1_ := Aside0.mk (hb); have n2_ := Aside0.mk (ho); clear BK151; clear HB; clear HO_3; have BK151 := n0_; have HB := n1_; have HO184 := n2_; clear n0_ n1_ n2_; clear ho hb hg hat))
                                            go_roundg k7
                                            case measure => have := HK1.out; have := HJ4.out; have := HJ9.out; have := HJ13.out; have := HJ46.out; have := HJ53.out; have := HK7.out; omega
                                            case rel => exact ⟨(y182), (wrap64 (x7_7 + 1)), (by first | rfl | (simp; done) | (simp [*]; done)), H', ⟨by have := HK1.out; have := HJ4.out; have := HJ9.out; have := HJ13.out; have := HJ46.out; have := HJ53.out; have := HK7.out; omega⟩, ⟨by (with_reducible repeat (first | apply Kd.zar | apply Kd.zaq | apply Kd.zax)); exact HO184.out⟩, ⟨by (with_reducible repeat (first | refine zai ?_ _ | refine zal ?_ | refine zaj ?_ _)); exact BK151.out⟩, ⟨by repeat (first | (with_reducible first | exact HB.out | apply zac | apply zaa | apply zad | refine zak ?_ GE151.out) | exact HB.out)⟩⟩
                                          · rw [if_neg c64] at H
                                            exact absurd H (by simp)
                                        · rw [if_neg c63] at H
                                          have c63b0 : ((bt ((zab l0 x10_1).f3) x7_7) == 38) = false := beq_eq_false_iff_ne.mpr c63
                                          have c63b1 : ((bt ((zab l0 x10_1).f3) x7_7) != 38) = true := bne_iff_ne.mpr c63
                                          by_cases c67 : (bt ((zab l0 x10_1).f3) x7_7) = 60
                                          · rw [if_pos c67] at H
                                            have c67b0 : ((bt ((zab l0 x10_1).f3) x7_7) == 60) = true := beq_iff_eq.mpr c67
                                            have c67b1 : ((bt ((zab l0 x10_1).f3) x7_7) != 60) = false := bne_eq_false_iff_eq.mpr c67
                                            clear c67
                                            by_cases c68 : x3_7.length + 4 < 140737488355328
                                            · rw [if_pos c68] at H
                                              have LMc68 := Aside0.mk c68
                                              clear c68
                                              obtain ⟨y185, hy185⟩ : ∃ y_ : List Int, y_ = (x3_7 ++ bytesOf (⟨#[38, 108, 116, 59]⟩ : ByteArray)) := ⟨_, rfl⟩
                                              replace H : (zaf.l1 k7 l0 y185 (wrap64 (x7_7 + 1)) l0 (l0.length : Int) x10_1 ((zab l0 x10_1).f0) ((zab l0 x10_1).f1) ((zab l0 x10_1).f2) ((zab l0 x10_1).f3)) = some r := by first | (rw [hy185]; with_reducible exact H) | (have H2_ := (Option.bind_some _ _).symm.trans H; rw [hy185]; with_reducible exact H2_) | (have H2_ := (Option.bind_some _ _).symm.trans H; with_reducible exact H2_) | with_reducible exact H | (rw [hy185]; exact H) | exact H
                                              have Ny185 := Aside0.mk hy185
                                              clear hy185
                                              have H' := Aside0.mk H
                                              clear H
                                              have hcz69_0 : wr.cell? ⟨gb151, 0, none⟩ = some (.int .i64 ((zab l0 x10_1).f0)) := (zag BK151.out 0).trans rfl
                                              have hcz69_1 : wr.cell? ⟨gb151, 1, none⟩ = some (.int .i64 ((zab l0 x10_1).f1)) := (zag BK151.out 1).trans rfl
                                              have hcz69_2 : wr.cell? ⟨gb151, 2, none⟩ = some (.string ((zab l0 x10_1).f2)) := (zag BK151.out 2).trans rfl
                                              have hcz69_3 : wr.cell? ⟨gb151, 3, none⟩ = some (.string ((zab l0 x10_1).f3)) := (zag BK151.out 3).trans rfl
                                              have hfz69_0 := zae BK151.out 0
                                              have hfz69_1 := zae BK151.out 1
                                              have hfz69_2 := zae BK151.out 2
                                              have hfz69_3 := zae BK151.out 3
                                              have p62 : 0 ≤ (x7_7 : Int) := of_decide_eq_true (by first | (with_reducible assumption) | assumption)
                                              have q62 : x7_7 < (((zab l0 x10_1).f3).size : Int) := of_decide_eq_true (by first | (with_reducible assumption) | assumption)
                                              have hx62 := zbk ((zab l0 x10_1).f3) x7_7
                                              replace p62 := eq_true p62
                                              replace q62 := eq_true q62
                                              go_wp2_with (first | (at_builtin; refine zbx (w0 := w) w.heap.size rfl (.tmp 92) _ 93 9 5 rfl Tryz.underlying93 Tryz.underlying9 info5 u3 x3_7 (⟨#[38, 108, 116, 59]⟩ : ByteArray) rfl rfl ?aO ?aB ?aS ?aL ?_; (case aB => exact (by repeat (first | (with_reducible first | exact HB.out | apply zac | apply zaa | apply zad | refine zak ?_ GE151.out) | exact HB.out))); (case aO => exact (Kd.zcv (by (with_reducible repeat (first | apply Kd.zar | apply Kd.zaq | apply Kd.zax)); exact HO_3.out))); (case aS => exact (zaw (by repeat (first | (with_reducible first | exact HB.out | apply zac | apply zaa | apply zad | refine zak ?_ GE151.out) | exact HB.out)))); (case aL => have := LMc68.out; have hz_ : (⟨#[38, 108, 116, 59]⟩ : ByteArray).size = 4 := rfl; omega); intro v186 w70 ho0 hb hg; have ho := Kd.zcz (h1 := fun _ => rfl) (ok := fun _ => True) ho0 (fun _ _ => trivial); clear ho0; have hat := True.intro; rw [← Ny185.out] at ho; change Kd.R (Kd.int .u8) 5 w70 w.heap.size (fun _ => True) v186 y185 at ho; have n0_ := Aside0.mk (zbv (g := gb151) (o := .cells #[.int .i64 ((zab l0 x10_1).f0), .int .i64 ((zab l0 x10_1).f1), .string ((zab l0 x10_1).f2), .string ((zab l0 x10_1).f3)] 60 (0, 0)) (by (with_reducible repeat (first | refine zai ?_ _ | refine zal ?_ | refine zaj ?_ _)); exact BK151.out) hg (Kd.R_ne HO_3.out BK151.out (by decide))); have n1_ := Aside0.mk (hb); have n2_ := Aside0.mk (ho); clear BK151; clear HB; clear HO_3; have BK151 := n0_; have HB := n1_; have HO187 := n2_; clear n0_ n1_ n2_; clear ho hb hg hat))
                                              go_roundg k7
                                              case measure => have := HK1.out; have := HJ4.out; have := HJ9.out; have := HJ13.out; have := HJ46.out; have := HJ53.out; have := HK7.out; omega
                                              case rel => exact ⟨(y185), (wrap64 (x7_7 + 1)), (by first | rfl | (simp; done) | (simp [*]; done)), H', ⟨by have := HK1.out; have := HJ4.out; have := HJ9.out; have := HJ13.out; have := HJ46.out; have := HJ53.out; have := HK7.out; omega⟩, ⟨by (with_reducible repeat (first | apply Kd.zar | apply Kd.zaq | apply Kd.zax)); exact HO187.out⟩, ⟨by (with_reducible repeat (first | refine zai ?_ _ | refine zal ?_ | refine zaj ?_ _)); exact BK151.out⟩, ⟨by repeat (first | (with_reducible first | exact HB.out | apply zac | apply zaa | apply zad | refine zak ?_ GE151.out) | exact HB.out)⟩⟩
                                            · rw [if_neg c68] at H
                                              exact absurd H (by simp)
                                          · rw [if_neg c67] at H
                                            have c67b0 : ((bt ((zab l0 x10_1).f3) x7_7) == 60) = false := beq_eq_false_iff_ne.mpr c67
                                            have c67b1 : ((bt ((zab l0 x10_1).f3) x7_7) != 60) = true := bne_iff_ne.mpr c67
                                            by_cases c71 : (bt ((zab l0 x10_1).f3) x7_7) = 62
                                            · rw [if_pos c71] at H
                                              have c71b0 : ((bt ((zab l0 x10_1).f3) x7_7) == 62) = true := beq_iff_eq.mpr c71
                                              have c71b1 : ((bt ((zab l0 x10_1).f3) x7_7) != 62) = false := bne_eq_false_iff_eq.mpr c71
                                              clear c71
                                              by_cases c72 : x3_7.length + 4 < 140737488355328
                                              · rw [if_pos c72] at H
                                                have LMc72 := Aside0.mk c72
                                                clear c72
                                                obtain ⟨y188, hy188⟩ : ∃ y_ : List Int, y_ = (x3_7 ++ bytesOf (⟨#[38, 103, 116, 59]⟩ : ByteArray)) := ⟨_, rfl⟩
                                                replace H : (zaf.l1 k7 l0 y188 (wrap64 (x7_7 + 1)) l0 (l0.length : Int) x10_1 ((zab l0 x10_1).f0) ((zab l0 x10_1).f1) ((zab l0 x10_1).f2) ((zab l0 x10_1).f3)) = some r := by first | (rw [hy188]; with_reducible exact H) | (have H2_ := (Option.bind_some _ _).symm.trans H; rw [hy188]; with_reducible exact H2_) | (have H2_ := (Option.bind_some _ _).symm.trans H; with_reducible exact H2_) | with_reducible exact H | (rw [hy188]; exact H) | exact H
                                                have Ny188 := Aside0.mk hy188
                                                clear hy188
                                                have H' := Aside0.mk H
                                                clear H
                                                have hcz73_0 : wr.cell? ⟨gb151, 0, none⟩ = some (.int .i64 ((zab l0 x10_1).f0)) := (zag BK151.out 0).trans rfl
                                                have hcz73_1 : wr.cell? ⟨gb151, 1, none⟩ = some (.int .i64 ((zab l0 x10_1).f1)) := (zag BK151.out 1).trans rfl
                                                have hcz73_2 : wr.cell? ⟨gb151, 2, none⟩ = some (.string ((zab l0 x10_1).f2)) := (zag BK151.out 2).trans rfl
                                                have hcz73_3 : wr.cell? ⟨gb151, 3, none⟩ = some (.string ((zab l0 x10_1).f3)) := (zag BK151.out 3).trans rfl
                                                have hfz73_0 := zae BK151.out 0
                                                have hfz73_1 := zae BK151.out 1
                                                have hfz73_2 := zae BK151.out 2
                                                have hfz73_3 := zae BK151.out 3
                                                have p62 : 0 ≤ (x7_7 : Int) := of_decide_eq_true (by first | (with_reducible assumption) | assumption)
                                                have q62 : x7_7 < (((zab l0 x10_1).f3).size : Int) := of_decide_eq_true (by first | (with_reducible assumption) | assumption)
                                                have hx62 := zbk ((zab l0 x10_1).f3) x7_7
                                                replace p62 := eq_true p62
                                                replace q62 := eq_true q62
                                                go_wp2_with (first | (at_builtin; refine zbx (w0 := w) w.heap.size rfl (.tmp 96) _ 93 9 5 rfl Tryz.underlying93 Tryz.underlying9 info5 u3 x3_7 (⟨#[38, 103, 116, 59]⟩ : ByteArray) rfl rfl ?aO ?aB ?aS ?aL ?_; (case aB => exact (by repeat (first | (with_reducible first | exact HB.out | apply zac | apply zaa | apply zad | refine zak ?_ GE151.out) | exact HB.out))); (case aO => exact (Kd.zcv (by (with_reducible repeat (first | apply Kd.zar | apply Kd.zaq | apply Kd.zax)); exact HO_3.out))); (case aS => exact (zaw (by repeat (first | (with_reducible first | exact HB.out | apply zac | apply zaa | apply zad | refine zak ?_ GE151.out) | exact HB.out)))); (case aL => have := LMc72.out; have hz_ : (⟨#[38, 103, 116, 59]⟩ : ByteArray).size = 4 := rfl; omega); intro v189 w74 ho0 hb hg; have ho := Kd.zcz (h1 := fun _ => rfl) (ok := fun _ => True) ho0 (fun _ _ => trivial); clear ho0; have hat := True.intro; rw [← Ny188.out] at ho; change Kd.R (Kd.int .u8) 5 w74 w.heap.size (fun _ => True) v189 y188 at ho; have n0_ := Aside0.mk (zbv (g := gb151) (o := .cells #[.int .i64 ((zab l0 x10_1).f0), .int .i64 ((zab l0 x10_1).f1), .string ((zab l0 x10_1).f2), .string ((zab l0 x10_1).f3)] 60 (0, 0)) (by (with_reducible repeat (first | refine zai ?_ _ | refine zal ?_ | refine zaj ?_ _)); exact BK151.out) hg (Kd.R_ne HO_3.out BK151.out (by decide))); have n1_ := Aside0.mk (hb); have n2_ := Aside0.mk (ho); clear BK151; clear HB; clear HO_3; have BK151 := n0_; have HB := n1_; have HO190 := n2_; clear n0_ n1_ n2_; clear ho hb hg hat))
                                                go_roundg k7
                                                case measure => have := HK1.out; have := HJ4.out; have := HJ9.out; have := HJ13.out; have := HJ46.out; have := HJ53.out; have := HK7.out; omega
                                                case rel => exact ⟨(y188), (wrap64 (x7_7 + 1)), (by first | rfl | (simp; done) | (simp [*]; done)), H', ⟨by have := HK1.out; have := HJ4.out; have := HJ9.out; have := HJ13.out; have := HJ46.out; have := HJ53.out; have := HK7.out; omega⟩, ⟨by (with_reducible repeat (first | apply Kd.zar | apply Kd.zaq | apply Kd.zax)); exact HO190.out⟩, ⟨by (with_reducible repeat (first | refine zai ?_ _ | refine zal ?_ | refine zaj ?_ _)); exact BK151.out⟩, ⟨by repeat (first | (with_reducible first | exact HB.out | apply zac | apply zaa | apply zad | refine zak ?_ GE151.out) | exact HB.out)⟩⟩
                                              · rw [if_neg c72] at H
                                                exact absurd H (by simp)
                                            · rw [if_neg c71] at H
                                              have c71b0 : ((bt ((zab l0 x10_1).f3) x7_7) == 62) = false := beq_eq_false_iff_ne.mpr c71
                                              have c71b1 : ((bt ((zab l0 x10_1).f3) x7_7) != 62) = true := bne_iff_ne.mpr c71
                                              by_cases c75 : (bt ((zab l0 x10_1).f3) x7_7) = 13
                                              · rw [if_pos c75] at H
                                                have c75b0 : ((bt ((zab l0 x10_1).f3) x7_7) == 13) = true := beq_iff_eq.mpr c75
                                                have c75b1 : ((bt ((zab l0 x10_1).f3) x7_7) != 13) = false := bne_eq_false_iff_eq.mpr c75
                                                clear c75
                                                by_cases c76 : x3_7.length + 5 < 140737488355328
                                                · rw [if_pos c76] at H
                                                  have LMc76 := Aside0.mk c76
                                                  clear c76
                                                  obtain ⟨y191, hy191⟩ : ∃ y_ : List Int, y_ = (x3_7 ++ bytesOf (⟨#[38, 35, 49, 51, 59]⟩ : ByteArray)) := ⟨_, rfl⟩
                                                  replace H : (zaf.l1 k7 l0 y191 (wrap64 (x7_7 + 1)) l0 (l0.length : Int) x10_1 ((zab l0 x10_1).f0) ((zab l0 x10_1).f1) ((zab l0 x10_1).f2) ((zab l0 x10_1).f3)) = some r := by first | (rw [hy191]; with_reducible exact H) | (have H2_ := (Option.bind_some _ _).symm.trans H; rw [hy191]; with_reducible exact H2_) | (have H2_ := (Option.bind_some _ _).symm.trans H; with_reducible exact H2_) | with_reducible exact H | (rw [hy191]; exact H) | exact H
                                                  have Ny191 := Aside0.mk hy191
                                                  clear hy191
                                                  have H' := Aside0.mk H
                                                  clear H
                                                  have hcz77_0 : wr.cell? ⟨gb151, 0, none⟩ = some (.int .i64 ((zab l0 x10_1).f0)) := (zag BK151.out 0).trans rfl
                                                  have hcz77_1 : wr.cell? ⟨gb151, 1, none⟩ = some (.int .i64 ((zab l0 x10_1).f1)) := (zag BK151.out 1).trans rfl
                                                  have hcz77_2 : wr.cell? ⟨gb151, 2, none⟩ = some (.string ((zab l0 x10_1).f2)) := (zag BK151.out 2).trans rfl
                                                  have hcz77_3 : wr.cell? ⟨gb151, 3, none⟩ = some (.string ((zab l0 x10_1).f3)) := (zag BK151.out 3).trans rfl
                                                  have hfz77_0 := zae BK151.out 0
                                                  have hfz77_1 := zae BK151.out 1
                                                  have hfz77_2 := zae BK151.out 2
                                                  have hfz77_3 := zae BK151.out 3
                                                  have p62 : 0 ≤ (x7_7 : Int) := of_decide_eq_true (by first | (with_reducible assumption) | assumption)
                                                  have q62 : x7_7 < (((zab l0 x10_1).f3).size : Int) := of_decide_eq_true (by first | (with_reducible assumption) | assumption)
                                                  have hx62 := zbk ((zab l0 x10_1).f3) x7_7
                                                  replace p62 := eq_true p62
                                                  replace q62 := eq_true q62
                                                  go_wp2_with (first | (at_builtin; refine zbx (w0 := w) w.heap.size rfl (.tmp 100) _ 93 9 5 rfl Tryz.underlying93 Tryz.underlying9 info5 u3 x3_7 (⟨#[38, 35, 49, 51, 59]⟩ : ByteArray) rfl rfl ?aO ?aB ?aS ?aL ?_; (case aB => exact (by repeat (first | (with_reducible first | exact HB.out | apply zac | apply zaa | apply zad | refine zak ?_ GE151.out) | exact HB.out))); (case aO => exact (Kd.zcv (by (with_reducible repeat (first | apply Kd.zar | apply Kd.zaq | apply Kd.zax)); exact HO_3.out))); (case aS => exact (zaw (by repeat (first | (with_reducible first | exact HB.out | apply zac | apply zaa | apply zad | refine zak ?_ GE151.out) | exact HB.out)))); (case aL => have := LMc76.out; have hz_ : (⟨#[38, 35, 49, 51, 59]⟩ : ByteArray).size = 5 := rfl; omega); intro v192 w78 ho0 hb hg; have ho := Kd.zcz (h1 := fun _ => rfl) (ok := fun _ => True) ho0 (fun _ _ => trivial); clear ho0; have hat := True.intro; rw [← Ny191.out] at ho; change Kd.R (Kd.int .u8) 5 w78 w.heap.size (fun _ => True) v192 y191 at ho; have n0_ := Aside0.mk (zbv (g := gb151) (o := .cells #[.int .i64 ((zab l0 x10_1).f0), .int .i64 ((zab l0 x10_1).f1), .string ((zab l0 x10_1).f2), .string ((zab l0 x10_1).f3)] 60 (0, 0)) (by (with_reducible repeat (first | refine zai ?_ _ | refine zal ?_ | refine zaj ?_ _)); exact BK151.out) hg (Kd.R_ne HO_3.out BK151.out (by decide))); have n1_ := Aside0.mk (hb); have n2_ := Aside0.mk (ho); clear BK151; clear HB; clear HO_3; have BK151 := n0_; have HB := n1_; have HO193 := n2_; clear n0_ n1_ n2_; clear ho hb hg hat))
                                                  go_roundg k7
                                                  case measure => have := HK1.out; have := HJ4.out; have := HJ9.out; have := HJ13.out; have := HJ46.out; have := HJ53.out; have := HK7.out; omega
                                                  case rel => exact ⟨(y191), (wrap64 (x7_7 + 1)), (by first | rfl | (simp; done) | (simp [*]; done)), H', ⟨by have := HK1.out; have := HJ4.out; have := HJ9.out; have := HJ13.out; have := HJ46.out; have := HJ53.out; have := HK7.out; omega⟩, ⟨by (with_reducible repeat (first | apply Kd.zar | apply Kd.zaq | apply Kd.zax)); exact HO193.out⟩, ⟨by (with_reducible repeat (first | refine zai ?_ _ | refine zal ?_ | refine zaj ?_ _)); exact BK151.out⟩, ⟨by repeat (first | (with_reducible first | exact HB.out | apply zac | apply zaa | apply zad | refine zak ?_ GE151.out) | exact HB.out)⟩⟩
                                                · rw [if_neg c76] at H
                                                  exact absurd H (by simp)
                                              · rw [if_neg c75] at H
                                                have c75b0 : ((bt ((zab l0 x10_1).f3) x7_7) == 13) = false := beq_eq_false_iff_ne.mpr c75
                                                have c75b1 : ((bt ((zab l0 x10_1).f3) x7_7) != 13) = true := bne_iff_ne.mpr c75
                                                by_cases c80 : x3_7.length < 140737488355328
                                                · rw [if_pos c80] at H
                                                  have LMc80 := Aside0.mk c80
                                                  clear c80
                                                  obtain ⟨y194, hy194⟩ : ∃ y_ : List Int, y_ = (x3_7 ++ [bt ((zab l0 x10_1).f3) x7_7]) := ⟨_, rfl⟩
                                                  replace H : (zaf.l1 k7 l0 y194 (wrap64 (x7_7 + 1)) l0 (l0.length : Int) x10_1 ((zab l0 x10_1).f0) ((zab l0 x10_1).f1) ((zab l0 x10_1).f2) ((zab l0 x10_1).f3)) = some r := by first | (rw [hy194]; with_reducible exact H) | (have H2_ := (Option.bind_some _ _).symm.trans H; rw [hy194]; with_reducible exact H2_) | (have H2_ := (Option.bind_some _ _).symm.trans H; with_reducible exact H2_) | with_reducible exact H | (rw [hy194]; exact H) | exact H
                                                  have Ny194 := Aside0.mk hy194
                                                  clear hy194
                                                  have H' := Aside0.mk H
                                                  clear H
                                                  have hcz81_0 : wr.cell? ⟨gb151, 0, none⟩ = some (.int .i64 ((zab l0 x10_1).f0)) := (zag BK151.out 0).trans rfl
                                                  have hcz81_1 : wr.cell? ⟨gb151, 1, none⟩ = some (.int .i64 ((zab l0 x10_1).f1)) := (zag BK151.out 1).trans rfl
                                                  have hcz81_2 : wr.cell? ⟨gb151, 2, none⟩ = some (.string ((zab l0 x10_1).f2)) := (zag BK151.out 2).trans rfl
                                                  have hcz81_3 : wr.cell? ⟨gb151, 3, none⟩ = some (.string ((zab l0 x10_1).f3)) := (zag BK151.out 3).trans rfl
                                                  have hfz81_0 := zae BK151.out 0
                                                  have hfz81_1 := zae BK151.out 1
                                                  have hfz81_2 := zae BK151.out 2
                                                  have hfz81_3 := zae BK151.out 3
                                                  have p62 : 0 ≤ (x7_7 : Int) := of_decide_eq_true (by first | (with_reducible assumption) | assumption)
                                                  have q62 : x7_7 < (((zab l0 x10_1).f3).size : Int) := of_decide_eq_true (by first | (with_reducible assumption) | assumption)
                                                  have hx62 := zbk ((zab l0 x10_1).f3) x7_7
                                                  replace p62 := eq_true p62
                                                  replace q62 := eq_true q62
                                                  have p79 : 0 ≤ (x7_7 : Int) := of_decide_eq_true (by first | (with_reducible assumption) | assumption)
                                                  have q79 : x7_7 < (((zab l0 x10_1).f3).size : Int) := of_decide_eq_true (by first | (with_reducible assumption) | assumption)
                                                  have hx79 := zbk ((zab l0 x10_1).f3) x7_7
                                                  replace p79 := eq_true p79
                                                  replace q79 := eq_true q79
                                                  go_wp2_with (first | ((with_reducible refine zbl (b := .append) (xs := #[.tmp 79, .tmp 84]) rfl ?_); at_builtin; refine Kd.zcn (Kd.int .u8) (w0 := w) w.heap.size rfl (.tmp 79) (.tmp 84) 93 5 (.int .u8 0) 1 rfl Tryz.underlying93 info5 rfl (by decide) (by omega) u3 x3_7 (bt ((zab l0 x10_1).f3) x7_7) [.int .u8 (bt ((zab l0 x10_1).f3) x7_7)] (fun _ => True) (fun _ => False) rfl rfl ?aP (fun _ hk => hk.elim) ?aF ?aO ?aB ?aS ?aL ?_; (case aP => exact rfl); (case aB => exact (by repeat (first | (with_reducible first | exact HB.out | apply zac | apply zaa | apply zad | refine zak ?_ GE151.out) | exact HB.out))); (case aF => exact (fun _ _ => trivial)); (case aO => exact (by (with_reducible repeat (first | apply Kd.zar | apply Kd.zaq | apply Kd.zax)); exact HO_3.out)); (case aS => exact (zaw (by repeat (first | (with_reducible first | exact HB.out | apply zac | apply zaa | apply zad | refine zak ?_ GE151.out) | exact HB.out)))); (case aL => have := LMc80.out; omega); intro v195 w82 ho hb hg hat; rw [← Ny194.out] at ho; have n0_ := Aside0.mk (zbv (g := gb151) (o := .cells #[.int .i64 ((zab l0 x10_1).f0), .int .i64 ((zab l0 x10_1).f1), .string ((zab l0 x10_1).f2), .string ((zab l0 x10_1).f3)] 60 (0, 0)) (by (with_reducible repeat (first | refine zai ?_ _ | refine zal ?_ | refine zaj ?_ _)); exact BK151.out) hg (Kd.R_ne HO_3.out BK151.out (by decide))); have n1_ := Aside0.mk (hb); have n2_ := Aside0.mk (ho); clear BK151; clear HB; clear HO_3; have BK151 := n0_; have HB := n1_; have HO196 := n2_; clear n0_ n1_ n2_; clear ho hb hg hat))
                                                  go_roundg k7
                                                  case measure => have := HK1.out; have := HJ4.out; have := HJ9.out; have := HJ13.out; have := HJ46.out; have := HJ53.out; have := HK7.out; omega
                                                  case rel => exact ⟨(y194), (wrap64 (x7_7 + 1)), (by first | rfl | (simp; done) | (simp [*]; done)), H', ⟨by have := HK1.out; have := HJ4.out; have := HJ9.out; have := HJ13.out; have := HJ46.out; have := HJ53.out; have := HK7.out; omega⟩, ⟨by (with_reducible repeat (first | apply Kd.zar | apply Kd.zaq | apply Kd.zax)); exact HO196.out⟩, ⟨by (with_reducible repeat (first | refine zai ?_ _ | refine zal ?_ | refine zaj ?_ _)); exact BK151.out⟩, ⟨by repeat (first | (with_reducible first | exact HB.out | apply zac | apply zaa | apply zad | refine zak ?_ GE151.out) | exact HB.out)⟩⟩
                                                · rw [if_neg c80] at H
                                                  exact absurd H (by simp)
                                      · rw [if_neg c61] at H
                                        exact absurd H (by simp)
                                    · rw [if_neg c60] at H
                                      have c60b0 : decide (x7_7 < (((zab l0 x10_1).f3).size : Int)) = false := decide_eq_false c60
                                      clear c60
                                      have H' := Aside0.mk H
                                      clear H
                                      have hcz83_0 : wr.cell? ⟨gb151, 0, none⟩ = some (.int .i64 ((zab l0 x10_1).f0)) := (zag BK151.out 0).trans rfl
                                      have hcz83_1 : wr.cell? ⟨gb151, 1, none⟩ = some (.int .i64 ((zab l0 x10_1).f1)) := (zag BK151.out 1).trans rfl
                                      have hcz83_2 : wr.cell? ⟨gb151, 2, none⟩ = some (.string ((zab l0 x10_1).f2)) := (zag BK151.out 2).trans rfl
                                      have hcz83_3 : wr.cell? ⟨gb151, 3, none⟩ = some (.string ((zab l0 x10_1).f3)) := (zag BK151.out 3).trans rfl
                                      have hfz83_0 := zae BK151.out 0
                                      have hfz83_1 := zae BK151.out 1
                                      have hfz83_2 := zae BK151.out 2
                                      have hfz83_3 := zae BK151.out 3
                                      go_wp2
                                      go_roundg k7
                                      case measure => have := HK1.out; have := HJ4.out; have := HJ9.out; have := HJ13.out; have := HJ46.out; have := HJ53.out; have := HK7.out; omega
                                      case rel => exact ⟨(x3_7), (wrap64 (x10_1 + 1)), (by first | rfl | (simp; done) | (simp [*]; done)), H', ⟨by have := HK1.out; have := HJ4.out; have := HJ9.out; have := HJ13.out; have := HJ46.out; have := HJ53.out; have := HK7.out; omega⟩, ⟨by (with_reducible repeat (first | apply Kd.zar | apply Kd.zaq | apply Kd.zax)); exact HO_3.out⟩, ⟨by repeat (first | (with_reducible first | exact HB.out | apply zac | apply zaa | apply zad | refine zak ?_ GE151.out) | exact HB.out)⟩⟩
          · rw [if_neg c4] at H
            exact absurd H (by simp)
        · rw [if_neg c3] at H
          exact absurd H (by simp)
      · rw [if_neg c2] at H
        have c2b0 : decide (x10_1 < (l0.length : Int)) = false := decide_eq_false c2
        clear c2
        obtain rfl := Option.some.inj H
        have hcv84 := own_string (P := Tryz.prog) Tryz.underlying93 Tryz.underlying5 Tryz.underlying9 (Kd.zcv HO_3.out)
        go_wp2
        go_ret
        exact ⟨by first | rfl | (simp [zat, zas] <;> rfl) | (simp [*, zat, zas] <;> rfl), by repeat (first | (with_reducible first | exact HB.out | apply zac | apply zaa | apply zad) | exact HB.out)⟩
end Go.Proofs.YtpaopeiegaijiaaGreatDoor.XXmlWrites
