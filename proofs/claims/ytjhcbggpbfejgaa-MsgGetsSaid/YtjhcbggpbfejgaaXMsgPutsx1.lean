-- written by wip/xprint.py: the kit's print with functions walked by hand
import Derived.Test.YtjhcbggpbfejgaaXMsgPutsx0
namespace Go.Proofs.Ytjhcbggpbfejgaa.XMsgPuts
open Go.RowKit Go.Proofs.zjt.zjq Go.Proofs.zjt.zjr Go.Proofs.zjt.zjs Go.Proofs.Ytjhcbggpbfejgaa.Mk
attribute [local go_sem] zes zeq zfi zfh zdy zdx zer zep   -- for this text's walks alone
set_option linter.unusedVariables false
set_option linter.unusedSimpArgs false
def zbp.f (a0_0 : Int) (a0_1 : ByteArray) (a0_2 : ByteArray) (a0_3 : ByteArray) (a0_4 : ByteArray) (a0_5 : ByteArray) (a0_6 : ByteArray) (l0_7 : List ByteArray) (a0_8 : Int) (a0_9 : Int) (a0_10 : Int) : Option (Bool) := if a0_0 = 0 then (if (wrap64 ((wrap64 ((wrap64 ((wrap64 ((wrap64 ((wrap64 ((a0_1.size : Int) + (a0_2.size : Int))) + (a0_3.size : Int))) + (a0_4.size : Int))) + (a0_5.size : Int))) + (a0_6.size : Int))) + (l0_7.length : Int))) = 0 then (if a0_8 = 0 then (if a0_9 = 0 then (some (a0_10 == 0)) else (some false)) else (some false)) else (some false)) else (some false)
set_option maxHeartbeats 8000000 in
set_option maxRecDepth 100000 in
theorem zbp.calls (a0_0 : Int) (a0_1 : ByteArray) (a0_2 : ByteArray) (a0_3 : ByteArray) (a0_4 : ByteArray) (a0_5 : ByteArray) (a0_6 : ByteArray) (A0_7 : Option Addr) (c0_7 : Nat) (l0_7 : List ByteArray) (a0_8 : Int) (a0_9 : Int) (a0_10 : Int) (r : Bool) (w : World) (hr0_7 : Kd.C Kd.string w A0_7 l0_7.length l0_7) (hc0_7 : l0_7.length ≤ c0_7) (h : zbp.f a0_0 a0_1 a0_2 a0_3 a0_4 a0_5 a0_6 l0_7 a0_8 a0_9 a0_10 = some r) :
  Calls Try.prog 21 #[.agg #[.int .i64 a0_0, .string a0_1, .string a0_2, .string a0_3, .string a0_4, .string a0_5, .string a0_6, .slice A0_7 l0_7.length c0_7, .int .i64 a0_8, .int .i64 a0_9, .int .i64 a0_10]] w fun e w' => e = .returned (.bool r) ∧ Below w.heap.size w w' := by
 have hu25 := Try.underlying25
 have HR0_7 := Aside0.mk hr0_7
 have HC0_7 := Aside0.mk hc0_7
 clear hr0_7 hc0_7
 have HB := Aside0.mk (Below.refl w.heap.size w)
 have H : (if a0_0 = 0 then (if (wrap64 ((wrap64 ((wrap64 ((wrap64 ((wrap64 ((wrap64 ((a0_1.size : Int) + (a0_2.size : Int))) + (a0_3.size : Int))) + (a0_4.size : Int))) + (a0_5.size : Int))) + (a0_6.size : Int))) + (l0_7.length : Int))) = 0 then (if a0_8 = 0 then (if a0_9 = 0 then (some (a0_10 == 0)) else (some false)) else (some false)) else (some false)) else (some false)) = some r := h
 clear h
 by_cases c2 : a0_0 = 0
 ·rw [if_pos c2] at H
  have c2b0 : (a0_0 == 0) = true := beq_iff_eq.mpr c2
  have c2b1 : (a0_0 != 0) = false := bne_eq_false_iff_eq.mpr c2
  clear c2
  by_cases c3 : (wrap64 ((wrap64 ((wrap64 ((wrap64 ((wrap64 ((wrap64 ((a0_1.size : Int) + (a0_2.size : Int))) + (a0_3.size : Int))) + (a0_4.size : Int))) + (a0_5.size : Int))) + (a0_6.size : Int))) + (l0_7.length : Int))) = 0
  ·rw [if_pos c3] at H
   have c3b0 : ((wrap64 ((wrap64 ((wrap64 ((wrap64 ((wrap64 ((wrap64 ((a0_1.size : Int) + (a0_2.size : Int))) + (a0_3.size : Int))) + (a0_4.size : Int))) + (a0_5.size : Int))) + (a0_6.size : Int))) + (l0_7.length : Int))) == 0) = true := beq_iff_eq.mpr c3
   have c3b1 : ((wrap64 ((wrap64 ((wrap64 ((wrap64 ((wrap64 ((wrap64 ((a0_1.size : Int) + (a0_2.size : Int))) + (a0_3.size : Int))) + (a0_4.size : Int))) + (a0_5.size : Int))) + (a0_6.size : Int))) + (l0_7.length : Int))) != 0) = false := bne_eq_false_iff_eq.mpr c3
   clear c3
   by_cases c4 : a0_8 = 0
   ·rw [if_pos c4] at H
    have c4b0 : (a0_8 == 0) = true := beq_iff_eq.mpr c4
    have c4b1 : (a0_8 != 0) = false := bne_eq_false_iff_eq.mpr c4
    clear c4
    by_cases c5 : a0_9 = 0
    ·rw [if_pos c5] at H
     have c5b0 : (a0_9 == 0) = true := beq_iff_eq.mpr c5
     have c5b1 : (a0_9 != 0) = false := bne_eq_false_iff_eq.mpr c5
     clear c5
     obtain rfl := Option.some.inj H
     go_enter Try.func21, Try.ntmps21
     go_wp2_with (first | ((with_reducible refine zcr (N := 1) rfl ?_); (try (refine zcv (by rfl) ?_; dsimp only)); refine zcm ?hg (N := 1) ?hd (cs := #[.int .i64 a0_0, .string a0_1, .string a0_2, .string a0_3, .string a0_4, .string a0_5, .string a0_6, .slice A0_7 l0_7.length c0_7, .int .i64 a0_8, .int .i64 a0_9, .int .i64 a0_10]) (t := 25) ?hr ?_; (case hd => rfl); (case hg => rfl); (case hr => first | (go_simp; done) | (go_simp; rfl)); intro gb104 hg w6 hbox hb; have n0_ := Aside0.mk (zbl (by repeat (first | (with_reducible first | exact HB.out | apply zad | apply zac | apply zae) | exact HB.out)) hb); have n1_ := Aside0.mk (hbox); have n2_ := Aside0.mk ((by rw [hg]; exact (zaz (by repeat (first | (with_reducible first | exact HB.out | apply zad | apply zac | apply zae) | exact HB.out))) : w.heap.size ≤ gb104)); have n3_ := Aside0.mk ((by rw [hg]; exact (zaz (by repeat (first | (with_reducible first | exact HB.out | apply zad | apply zac | apply zae) | exact HB.out))) : w.heap.size ≤ gb104)); clear HB; have HB := n0_; have BK104 := n1_; have GW104 := n2_; have GE104 := n3_; clear n0_ n1_ n2_ n3_; clear hb hbox hg; have hcz7_0 : w6.cell? ⟨gb104, 0, none⟩ = some (.int .i64 a0_0) := (zaa BK104.out 0).trans rfl; have hcz7_1 : w6.cell? ⟨gb104, 1, none⟩ = some (.string a0_1) := (zaa BK104.out 1).trans rfl; have hcz7_2 : w6.cell? ⟨gb104, 2, none⟩ = some (.string a0_2) := (zaa BK104.out 2).trans rfl; have hcz7_3 : w6.cell? ⟨gb104, 3, none⟩ = some (.string a0_3) := (zaa BK104.out 3).trans rfl; have hcz7_4 : w6.cell? ⟨gb104, 4, none⟩ = some (.string a0_4) := (zaa BK104.out 4).trans rfl; have hcz7_5 : w6.cell? ⟨gb104, 5, none⟩ = some (.string a0_5) := (zaa BK104.out 5).trans rfl; have hcz7_6 : w6.cell? ⟨gb104, 6, none⟩ = some (.string a0_6) := (zaa BK104.out 6).trans rfl; have hcz7_7 : w6.cell? ⟨gb104, 7, none⟩ = some (.slice A0_7 l0_7.length c0_7) := (zaa BK104.out 7).trans rfl; have hcz7_8 : w6.cell? ⟨gb104, 8, none⟩ = some (.int .i64 a0_8) := (zaa BK104.out 8).trans rfl; have hcz7_9 : w6.cell? ⟨gb104, 9, none⟩ = some (.int .i64 a0_9) := (zaa BK104.out 9).trans rfl; have hcz7_10 : w6.cell? ⟨gb104, 10, none⟩ = some (.int .i64 a0_10) := (zaa BK104.out 10).trans rfl; have hfz7_0 := zab BK104.out 0; have hfz7_1 := zab BK104.out 1; have hfz7_2 := zab BK104.out 2; have hfz7_3 := zab BK104.out 3; have hfz7_4 := zab BK104.out 4; have hfz7_5 := zab BK104.out 5; have hfz7_6 := zab BK104.out 6; have hfz7_7 := zab BK104.out 7; have hfz7_8 := zab BK104.out 8; have hfz7_9 := zab BK104.out 9; have hfz7_10 := zab BK104.out 10))
     go_ret
     exact ⟨by first | rfl | (simp [zay, zax] <;> rfl) | (simp [*, zay, zax] <;> rfl), by repeat (first | (with_reducible first | exact HB.out | apply zad | apply zac | apply zae | refine zah ?_ GE104.out) | exact HB.out)⟩
    ·rw [if_neg c5] at H
     have c5b0 : (a0_9 == 0) = false := beq_eq_false_iff_ne.mpr c5
     have c5b1 : (a0_9 != 0) = true := bne_iff_ne.mpr c5
     obtain rfl := Option.some.inj H
     go_enter Try.func21, Try.ntmps21
     go_wp2_with (first | ((with_reducible refine zcr (N := 1) rfl ?_); (try (refine zcv (by rfl) ?_; dsimp only)); refine zcm ?hg (N := 1) ?hd (cs := #[.int .i64 a0_0, .string a0_1, .string a0_2, .string a0_3, .string a0_4, .string a0_5, .string a0_6, .slice A0_7 l0_7.length c0_7, .int .i64 a0_8, .int .i64 a0_9, .int .i64 a0_10]) (t := 25) ?hr ?_; (case hd => rfl); (case hg => rfl); (case hr => first | (go_simp; done) | (go_simp; rfl)); intro gb104 hg w8 hbox hb; have n0_ := Aside0.mk (zbl (by repeat (first | (with_reducible first | exact HB.out | apply zad | apply zac | apply zae) | exact HB.out)) hb); have n1_ := Aside0.mk (hbox); have n2_ := Aside0.mk ((by rw [hg]; exact (zaz (by repeat (first | (with_reducible first | exact HB.out | apply zad | apply zac | apply zae) | exact HB.out))) : w.heap.size ≤ gb104)); have n3_ := Aside0.mk ((by rw [hg]; exact (zaz (by repeat (first | (with_reducible first | exact HB.out | apply zad | apply zac | apply zae) | exact HB.out))) : w.heap.size ≤ gb104)); clear HB; have HB := n0_; have BK104 := n1_; have GW104 := n2_; have GE104 := n3_; clear n0_ n1_ n2_ n3_; clear hb hbox hg; have hcz9_0 : w8.cell? ⟨gb104, 0, none⟩ = some (.int .i64 a0_0) := (zaa BK104.out 0).trans rfl; have hcz9_1 : w8.cell? ⟨gb104, 1, none⟩ = some (.string a0_1) := (zaa BK104.out 1).trans rfl; have hcz9_2 : w8.cell? ⟨gb104, 2, none⟩ = some (.string a0_2) := (zaa BK104.out 2).trans rfl; have hcz9_3 : w8.cell? ⟨gb104, 3, none⟩ = some (.string a0_3) := (zaa BK104.out 3).trans rfl; have hcz9_4 : w8.cell? ⟨gb104, 4, none⟩ = some (.string a0_4) := (zaa BK104.out 4).trans rfl; have hcz9_5 : w8.cell? ⟨gb104, 5, none⟩ = some (.string a0_5) := (zaa BK104.out 5).trans rfl; have hcz9_6 : w8.cell? ⟨gb104, 6, none⟩ = some (.string a0_6) := (zaa BK104.out 6).trans rfl; have hcz9_7 : w8.cell? ⟨gb104, 7, none⟩ = some (.slice A0_7 l0_7.length c0_7) := (zaa BK104.out 7).trans rfl; have hcz9_8 : w8.cell? ⟨gb104, 8, none⟩ = some (.int .i64 a0_8) := (zaa BK104.out 8).trans rfl; have hcz9_9 : w8.cell? ⟨gb104, 9, none⟩ = some (.int .i64 a0_9) := (zaa BK104.out 9).trans rfl; have hcz9_10 : w8.cell? ⟨gb104, 10, none⟩ = some (.int .i64 a0_10) := (zaa BK104.out 10).trans rfl; have hfz9_0 := zab BK104.out 0; have hfz9_1 := zab BK104.out 1; have hfz9_2 := zab BK104.out 2; have hfz9_3 := zab BK104.out 3; have hfz9_4 := zab BK104.out 4; have hfz9_5 := zab BK104.out 5; have hfz9_6 := zab BK104.out 6; have hfz9_7 := zab BK104.out 7; have hfz9_8 := zab BK104.out 8; have hfz9_9 := zab BK104.out 9; have hfz9_10 := zab BK104.out 10))
     go_ret
     exact ⟨by first | rfl | (simp [zay, zax] <;> rfl) | (simp [*, zay, zax] <;> rfl), by repeat (first | (with_reducible first | exact HB.out | apply zad | apply zac | apply zae | refine zah ?_ GE104.out) | exact HB.out)⟩
   ·rw [if_neg c4] at H
    have c4b0 : (a0_8 == 0) = false := beq_eq_false_iff_ne.mpr c4
    have c4b1 : (a0_8 != 0) = true := bne_iff_ne.mpr c4
    obtain rfl := Option.some.inj H
    go_enter Try.func21, Try.ntmps21
    go_wp2_with (first | ((with_reducible refine zcr (N := 1) rfl ?_); (try (refine zcv (by rfl) ?_; dsimp only)); refine zcm ?hg (N := 1) ?hd (cs := #[.int .i64 a0_0, .string a0_1, .string a0_2, .string a0_3, .string a0_4, .string a0_5, .string a0_6, .slice A0_7 l0_7.length c0_7, .int .i64 a0_8, .int .i64 a0_9, .int .i64 a0_10]) (t := 25) ?hr ?_; (case hd => rfl); (case hg => rfl); (case hr => first | (go_simp; done) | (go_simp; rfl)); intro gb104 hg w10 hbox hb; have n0_ := Aside0.mk (zbl (by repeat (first | (with_reducible first | exact HB.out | apply zad | apply zac | apply zae) | exact HB.out)) hb); have n1_ := Aside0.mk (hbox); have n2_ := Aside0.mk ((by rw [hg]; exact (zaz (by repeat (first | (with_reducible first | exact HB.out | apply zad | apply zac | apply zae) | exact HB.out))) : w.heap.size ≤ gb104)); have n3_ := Aside0.mk ((by rw [hg]; exact (zaz (by repeat (first | (with_reducible first | exact HB.out | apply zad | apply zac | apply zae) | exact HB.out))) : w.heap.size ≤ gb104)); clear HB; have HB := n0_; have BK104 := n1_; have GW104 := n2_; have GE104 := n3_; clear n0_ n1_ n2_ n3_; clear hb hbox hg; have hcz11_0 : w10.cell? ⟨gb104, 0, none⟩ = some (.int .i64 a0_0) := (zaa BK104.out 0).trans rfl; have hcz11_1 : w10.cell? ⟨gb104, 1, none⟩ = some (.string a0_1) := (zaa BK104.out 1).trans rfl; have hcz11_2 : w10.cell? ⟨gb104, 2, none⟩ = some (.string a0_2) := (zaa BK104.out 2).trans rfl; have hcz11_3 : w10.cell? ⟨gb104, 3, none⟩ = some (.string a0_3) := (zaa BK104.out 3).trans rfl; have hcz11_4 : w10.cell? ⟨gb104, 4, none⟩ = some (.string a0_4) := (zaa BK104.out 4).trans rfl; have hcz11_5 : w10.cell? ⟨gb104, 5, none⟩ = some (.string a0_5) := (zaa BK104.out 5).trans rfl; have hcz11_6 : w10.cell? ⟨gb104, 6, none⟩ = some (.string a0_6) := (zaa BK104.out 6).trans rfl; have hcz11_7 : w10.cell? ⟨gb104, 7, none⟩ = some (.slice A0_7 l0_7.length c0_7) := (zaa BK104.out 7).trans rfl; have hcz11_8 : w10.cell? ⟨gb104, 8, none⟩ = some (.int .i64 a0_8) := (zaa BK104.out 8).trans rfl; have hcz11_9 : w10.cell? ⟨gb104, 9, none⟩ = some (.int .i64 a0_9) := (zaa BK104.out 9).trans rfl; have hcz11_10 : w10.cell? ⟨gb104, 10, none⟩ = some (.int .i64 a0_10) := (zaa BK104.out 10).trans rfl; have hfz11_0 := zab BK104.out 0; have hfz11_1 := zab BK104.out 1; have hfz11_2 := zab BK104.out 2; have hfz11_3 := zab BK104.out 3; have hfz11_4 := zab BK104.out 4; have hfz11_5 := zab BK104.out 5; have hfz11_6 := zab BK104.out 6; have hfz11_7 := zab BK104.out 7; have hfz11_8 := zab BK104.out 8; have hfz11_9 := zab BK104.out 9; have hfz11_10 := zab BK104.out 10))
    go_ret
    exact ⟨by first | rfl | (simp [zay, zax] <;> rfl) | (simp [*, zay, zax] <;> rfl), by repeat (first | (with_reducible first | exact HB.out | apply zad | apply zac | apply zae | refine zah ?_ GE104.out) | exact HB.out)⟩
  ·rw [if_neg c3] at H
   have c3b0 : ((wrap64 ((wrap64 ((wrap64 ((wrap64 ((wrap64 ((wrap64 ((a0_1.size : Int) + (a0_2.size : Int))) + (a0_3.size : Int))) + (a0_4.size : Int))) + (a0_5.size : Int))) + (a0_6.size : Int))) + (l0_7.length : Int))) == 0) = false := beq_eq_false_iff_ne.mpr c3
   have c3b1 : ((wrap64 ((wrap64 ((wrap64 ((wrap64 ((wrap64 ((wrap64 ((a0_1.size : Int) + (a0_2.size : Int))) + (a0_3.size : Int))) + (a0_4.size : Int))) + (a0_5.size : Int))) + (a0_6.size : Int))) + (l0_7.length : Int))) != 0) = true := bne_iff_ne.mpr c3
   obtain rfl := Option.some.inj H
   go_enter Try.func21, Try.ntmps21
   go_wp2_with (first | ((with_reducible refine zcr (N := 1) rfl ?_); (try (refine zcv (by rfl) ?_; dsimp only)); refine zcm ?hg (N := 1) ?hd (cs := #[.int .i64 a0_0, .string a0_1, .string a0_2, .string a0_3, .string a0_4, .string a0_5, .string a0_6, .slice A0_7 l0_7.length c0_7, .int .i64 a0_8, .int .i64 a0_9, .int .i64 a0_10]) (t := 25) ?hr ?_; (case hd => rfl); (case hg => rfl); (case hr => first | (go_simp; done) | (go_simp; rfl)); intro gb104 hg w12 hbox hb; have n0_ := Aside0.mk (zbl (by repeat (first | (with_reducible first | exact HB.out | apply zad | apply zac | apply zae) | exact HB.out)) hb); have n1_ := Aside0.mk (hbox); have n2_ := Aside0.mk ((by rw [hg]; exact (zaz (by repeat (first | (with_reducible first | exact HB.out | apply zad | apply zac | apply zae) | exact HB.out))) : w.heap.size ≤ gb104)); have n3_ := Aside0.mk ((by rw [hg]; exact (zaz (by repeat (first | (with_reducible first | exact HB.out | apply zad | apply zac | apply zae) | exact HB.out))) : w.heap.size ≤ gb104)); clear HB; have HB := n0_; have BK104 := n1_; have GW104 := n2_; have GE104 := n3_; clear n0_ n1_ n2_ n3_; clear hb hbox hg; have hcz13_0 : w12.cell? ⟨gb104, 0, none⟩ = some (.int .i64 a0_0) := (zaa BK104.out 0).trans rfl; have hcz13_1 : w12.cell? ⟨gb104, 1, none⟩ = some (.string a0_1) := (zaa BK104.out 1).trans rfl; have hcz13_2 : w12.cell? ⟨gb104, 2, none⟩ = some (.string a0_2) := (zaa BK104.out 2).trans rfl; have hcz13_3 : w12.cell? ⟨gb104, 3, none⟩ = some (.string a0_3) := (zaa BK104.out 3).trans rfl; have hcz13_4 : w12.cell? ⟨gb104, 4, none⟩ = some (.string a0_4) := (zaa BK104.out 4).trans rfl; have hcz13_5 : w12.cell? ⟨gb104, 5, none⟩ = some (.string a0_5) := (zaa BK104.out 5).trans rfl; have hcz13_6 : w12.cell? ⟨gb104, 6, none⟩ = some (.string a0_6) := (zaa BK104.out 6).trans rfl; have hcz13_7 : w12.cell? ⟨gb104, 7, none⟩ = some (.slice A0_7 l0_7.length c0_7) := (zaa BK104.out 7).trans rfl; have hcz13_8 : w12.cell? ⟨gb104, 8, none⟩ = some (.int .i64 a0_8) := (zaa BK104.out 8).trans rfl; have hcz13_9 : w12.cell? ⟨gb104, 9, none⟩ = some (.int .i64 a0_9) := (zaa BK104.out 9).trans rfl; have hcz13_10 : w12.cell? ⟨gb104, 10, none⟩ = some (.int .i64 a0_10) := (zaa BK104.out 10).trans rfl; have hfz13_0 := zab BK104.out 0; have hfz13_1 := zab BK104.out 1; have hfz13_2 := zab BK104.out 2; have hfz13_3 := zab BK104.out 3; have hfz13_4 := zab BK104.out 4; have hfz13_5 := zab BK104.out 5; have hfz13_6 := zab BK104.out 6; have hfz13_7 := zab BK104.out 7; have hfz13_8 := zab BK104.out 8; have hfz13_9 := zab BK104.out 9; have hfz13_10 := zab BK104.out 10))
   go_ret
   exact ⟨by first | rfl | (simp [zay, zax] <;> rfl) | (simp [*, zay, zax] <;> rfl), by repeat (first | (with_reducible first | exact HB.out | apply zad | apply zac | apply zae | refine zah ?_ GE104.out) | exact HB.out)⟩
 ·rw [if_neg c2] at H
  have c2b0 : (a0_0 == 0) = false := beq_eq_false_iff_ne.mpr c2
  have c2b1 : (a0_0 != 0) = true := bne_iff_ne.mpr c2
  obtain rfl := Option.some.inj H
  go_enter Try.func21, Try.ntmps21
  go_wp2_with (first | ((with_reducible refine zcr (N := 1) rfl ?_); (try (refine zcv (by rfl) ?_; dsimp only)); refine zcm ?hg (N := 1) ?hd (cs := #[.int .i64 a0_0, .string a0_1, .string a0_2, .string a0_3, .string a0_4, .string a0_5, .string a0_6, .slice A0_7 l0_7.length c0_7, .int .i64 a0_8, .int .i64 a0_9, .int .i64 a0_10]) (t := 25) ?hr ?_; (case hd => rfl); (case hg => rfl); (case hr => first | (go_simp; done) | (go_simp; rfl)); intro gb104 hg w14 hbox hb; have n0_ := Aside0.mk (zbl (by repeat (first | (with_reducible first | exact HB.out | apply zad | apply zac | apply zae) | exact HB.out)) hb); have n1_ := Aside0.mk (hbox); have n2_ := Aside0.mk ((by rw [hg]; exact (zaz (by repeat (first | (with_reducible first | exact HB.out | apply zad | apply zac | apply zae) | exact HB.out))) : w.heap.size ≤ gb104)); have n3_ := Aside0.mk ((by rw [hg]; exact (zaz (by repeat (first | (with_reducible first | exact HB.out | apply zad | apply zac | apply zae) | exact HB.out))) : w.heap.size ≤ gb104)); clear HB; have HB := n0_; have BK104 := n1_; have GW104 := n2_; have GE104 := n3_; clear n0_ n1_ n2_ n3_; clear hb hbox hg; have hcz15_0 : w14.cell? ⟨gb104, 0, none⟩ = some (.int .i64 a0_0) := (zaa BK104.out 0).trans rfl; have hcz15_1 : w14.cell? ⟨gb104, 1, none⟩ = some (.string a0_1) := (zaa BK104.out 1).trans rfl; have hcz15_2 : w14.cell? ⟨gb104, 2, none⟩ = some (.string a0_2) := (zaa BK104.out 2).trans rfl; have hcz15_3 : w14.cell? ⟨gb104, 3, none⟩ = some (.string a0_3) := (zaa BK104.out 3).trans rfl; have hcz15_4 : w14.cell? ⟨gb104, 4, none⟩ = some (.string a0_4) := (zaa BK104.out 4).trans rfl; have hcz15_5 : w14.cell? ⟨gb104, 5, none⟩ = some (.string a0_5) := (zaa BK104.out 5).trans rfl; have hcz15_6 : w14.cell? ⟨gb104, 6, none⟩ = some (.string a0_6) := (zaa BK104.out 6).trans rfl; have hcz15_7 : w14.cell? ⟨gb104, 7, none⟩ = some (.slice A0_7 l0_7.length c0_7) := (zaa BK104.out 7).trans rfl; have hcz15_8 : w14.cell? ⟨gb104, 8, none⟩ = some (.int .i64 a0_8) := (zaa BK104.out 8).trans rfl; have hcz15_9 : w14.cell? ⟨gb104, 9, none⟩ = some (.int .i64 a0_9) := (zaa BK104.out 9).trans rfl; have hcz15_10 : w14.cell? ⟨gb104, 10, none⟩ = some (.int .i64 a0_10) := (zaa BK104.out 10).trans rfl; have hfz15_0 := zab BK104.out 0; have hfz15_1 := zab BK104.out 1; have hfz15_2 := zab BK104.out 2; have hfz15_3 := zab BK104.out 3; have hfz15_4 := zab BK104.out 4; have hfz15_5 := zab BK104.out 5; have hfz15_6 := zab BK104.out 6; have hfz15_7 := zab BK104.out 7; have hfz15_8 := zab BK104.out 8; have hfz15_9 := zab BK104.out 9; have hfz15_10 := zab BK104.out 10))
  go_ret
  exact ⟨by first | rfl | (simp [zay, zax] <;> rfl) | (simp [*, zay, zax] <;> rfl), by repeat (first | (with_reducible first | exact HB.out | apply zad | apply zac | apply zae | refine zah ?_ GE104.out) | exact HB.out)⟩
def zao.l0 : Nat → List Int → Int → Int → Option (List Int)
 | 0, _, _, _ => none
 | k + 1, x0, x1, x5 => if x5 ≥ 0 then (if 0 ≤ (IntKind.u64.wrap (wrap64 (8 * x5))) then (if x0.length < 140737488355328 then (zao.l0 k (x0 ++ [(shr .u64 (IntKind.u64.wrap (x1)) (IntKind.u64.wrap (wrap64 (8 * x5)))) % 256]) x1 (wrap64 (x5 - 1))) else (none)) else (none)) else (some x0)
def zao.f (k : Nat) (l0 : List Int) (a1 : Int) : Option (List Int) := zao.l0 k l0 a1 7
set_option maxHeartbeats 8000000 in
set_option maxRecDepth 100000 in
theorem zao.calls (k : Nat) (P0_ : Nat → Prop) (u9000_ : Value) (l0 : List Int) (a1 : Int) (r : List Int) (w0 w : World) (hB : Below w0.heap.size w0 w) (ho0 : Kd.R (Kd.int .u8) 5 w w0.heap.size P0_ u9000_ l0) (h : zao.f k l0 a1 = some r) :
  Calls Try.prog 48 #[u9000_, .int .i64 a1] w fun e w' => ∃ v0_ : Value, e = .returned (v0_) ∧ Kd.R (Kd.int .u8) 5 w' w0.heap.size (fun k_ => (P0_ k_ ∨ w.heap.size ≤ k_)) v0_ r ∧ Below w0.heap.size w0 w' ∧ Kept w w' (fun k_ => P0_ k_) := by
 have HO0 := Aside0.mk (show Kd.R (Kd.int .u8) 5 w w0.heap.size (fun k_ => (P0_ k_ ∨ w.heap.size ≤ k_)) u9000_ l0 from Kd.zbh ho0 (fun k_ hk => (.inl hk)))
 have HK := Aside0.mk (Kept.refl w (fun k_ => P0_ k_))
 have HW0 := Aside0.mk hB.size
 have HB := Aside0.mk hB
 clear hB
 have H : (zao.l0 k l0 a1 7) = some r := h
 clear h
 have H' := Aside0.mk H
 clear H
 go_enter Try.func48, Try.ntmps48
 go_wp2
 go_loopg [0, 5] k (fun kq v0 v5 w' => ∃ (x0_1 : List Int) (x5_1 : Int), v5 = .int .i64 x5_1 ∧ Aside0 (zao.l0 kq x0_1 a1 x5_1 = some r) ∧ Aside0 (kq ≤ k) ∧ Aside0 (Kd.R (Kd.int .u8) 5 w' w0.heap.size (fun k_ => (P0_ k_ ∨ w.heap.size ≤ k_)) v0 x0_1) ∧ Aside0 (Kept w w' (fun k_ => P0_ k_)) ∧ Aside0 (Below w0.heap.size w0 w'))
 case atStart => exact ⟨(l0), (7), (by first | rfl | (simp; done) | (simp [*]; done)), H', ⟨Nat.le_refl _⟩, ⟨by (with_reducible repeat (first | apply Kd.zbb | apply Kd.zba | apply Kd.zbf)); exact HO0.out⟩, ⟨by repeat (first | (with_reducible first | exact HK.out | apply Kept.alloc | apply Kept.drewN | apply Kept.drew) | exact HK.out)⟩, ⟨by repeat (first | (with_reducible first | exact HB.out | apply zad | apply zac | apply zae) | exact HB.out)⟩⟩
 case round =>
  clear H'
  try clear p2
  obtain ⟨x0_1, x5_1, rfl, HA, HK1, HO_0, HK, HB⟩ := hrel
  cases gk with
  | zero => exact absurd HA.out (by simp [zao.l0])
  | succ k1 =>
   have H := HA.out
   clear HA
   simp only [zao.l0] at H
   by_cases c3 : x5_1 ≥ 0
   ·rw [if_pos c3] at H
    have c3b0 : decide (0 ≤ x5_1) = true := decide_eq_true c3
    clear c3
    obtain ⟨ji4, hji4⟩ : ∃ j_ : Int, (IntKind.u64.wrap (wrap64 (8 * x5_1))) = j_ := ⟨_, rfl⟩
    replace H : (if 0 ≤ (ji4) then (if x0_1.length < 140737488355328 then (zao.l0 k1 (x0_1 ++ [(shr .u64 (IntKind.u64.wrap (a1)) (ji4)) % 256]) a1 (wrap64 (x5_1 - 1))) else (none)) else (none)) = some r := by first | (rw [hji4] at H; exact H) | (simp only [hji4] at H ⊢; exact H)
    by_cases c5 : 0 ≤ (ji4)
    ·rw [if_pos c5] at H
     have c5b0 := eq_true c5
     have c5b1 : decide (0 ≤ (ji4)) = true := decide_eq_true c5
     clear c5
     obtain ⟨ji6, hji6⟩ : ∃ j_ : Int, (shr .u64 (IntKind.u64.wrap (a1)) (ji4)) = j_ := ⟨_, rfl⟩
     replace H : (if x0_1.length < 140737488355328 then (zao.l0 k1 (x0_1 ++ [(ji6) % 256]) a1 (wrap64 (x5_1 - 1))) else (none)) = some r := by first | (rw [hji6] at H; exact H) | (simp only [hji6] at H ⊢; exact H)
     have hji6_ : ((IntKind.u64.wrap (a1)) / 2 ^ min (ji4).toNat 64) = ji6 := hji6
     have hji6z : (ji4) ≤ 64 → ((IntKind.u64.wrap (a1)) / 2 ^ (ji4).toNat) = ji6 := shr_small hji6
     by_cases c7 : x0_1.length < 140737488355328
     ·rw [if_pos c7] at H
      have LMc7 := Aside0.mk c7
      clear c7
      obtain ⟨y105, hy105⟩ : ∃ y_ : List Int, y_ = (x0_1 ++ [(ji6) % 256]) := ⟨_, rfl⟩
      replace H : (zao.l0 k1 y105 a1 (wrap64 (x5_1 - 1))) = some r := by first | (rw [hy105]; with_reducible exact H) | (have H2_ := (Option.bind_some _ _).symm.trans H; rw [hy105]; with_reducible exact H2_) | (have H2_ := (Option.bind_some _ _).symm.trans H; with_reducible exact H2_) | with_reducible exact H | (rw [hy105]; exact H) | exact H
      have Ny105 := Aside0.mk hy105
      clear hy105
      have H' := Aside0.mk H
      clear H
      go_wp2_with (first | ((with_reducible refine zcd (b := .append) (xs := #[.tmp 10, .tmp 18]) rfl ?_); at_builtin; refine Kd.zdd (Kd.int .u8) (w0 := w0) w0.heap.size rfl (.tmp 10) (.tmp 18) 27 5 (.int .u8 0) 1 rfl Try.underlying27 info5 rfl (by decide) (by omega) u0 x0_1 ((ji6) % 256) [.int .u8 ((ji6) % 256)] (fun k_ => (P0_ k_ ∨ w.heap.size ≤ k_)) (fun _ => False) rfl rfl ?aP (fun _ hk => hk.elim) ?aF ?aO ?aB ?aS ?aL ?_; (case aP => exact rfl); (case aB => exact (by repeat (first | (with_reducible first | exact HB.out | apply zad | apply zac | apply zae) | exact HB.out))); (case aF => exact (fun k_ hk => (.inr (Nat.le_trans (by first | exact HK.out.1 | exact (show Kept w _ (fun k_ => P0_ k_) from by repeat (first | (with_reducible first | exact HK.out | apply Kept.alloc | apply Kept.drewN | apply Kept.drew) | exact HK.out)).1) hk)))); (case aO => exact (by (with_reducible repeat (first | apply Kd.zbb | apply Kd.zba | apply Kd.zbf)); exact HO_0.out)); (case aS => exact (zaz (by repeat (first | (with_reducible first | exact HB.out | apply zad | apply zac | apply zae) | exact HB.out)))); (case aL => have := LMc7.out; omega); intro v106 w8 ho hb hg hat; rw [← Ny105.out] at ho; have n0_ := Aside0.mk (hb); have n1_ := Aside0.mk (Kept.zec (S := (fun k_ => P0_ k_)) hg (by repeat (first | (with_reducible first | exact HK.out | apply Kept.alloc | apply Kept.drewN | apply Kept.drew) | exact HK.out)) (fun k_ e_ => (HO_0.out.1 k_ e_))); have n2_ := Aside0.mk (ho); clear HB; clear HK; clear HO_0; have HB := n0_; have HK := n1_; have HO107 := n2_; clear n0_ n1_ n2_; clear ho hb hg hat))
      go_roundg k1
      case measure => have := HK1.out; omega
      case rel => exact ⟨(y105), (wrap64 (x5_1 - 1)), (by first | rfl | (simp; done) | (simp [*]; done)), H', ⟨by have := HK1.out; omega⟩, ⟨by (with_reducible repeat (first | apply Kd.zbb | apply Kd.zba | apply Kd.zbf)); exact HO107.out⟩, ⟨by repeat (first | (with_reducible first | exact HK.out | apply Kept.alloc | apply Kept.drewN | apply Kept.drew) | exact HK.out)⟩, ⟨by repeat (first | (with_reducible first | exact HB.out | apply zad | apply zac | apply zae) | exact HB.out)⟩⟩
     ·rw [if_neg c7] at H
      exact absurd H (by simp)
    ·rw [if_neg c5] at H
     exact absurd H (by simp)
   ·rw [if_neg c3] at H
    have c3b0 : decide (0 ≤ x5_1) = false := decide_eq_false c3
    clear c3
    obtain rfl := Option.some.inj H
    go_wp2
    go_ret
    exact ⟨_, by first | rfl | (simp [zay, zax] <;> rfl) | (simp [*, zay, zax] <;> rfl), by (with_reducible repeat (first | apply Kd.zbb | apply Kd.zba | apply Kd.zbf)); exact HO_0.out, by repeat (first | (with_reducible first | exact HB.out | apply zad | apply zac | apply zae) | exact HB.out), by repeat (first | (with_reducible first | exact HK.out | apply Kept.alloc | apply Kept.drewN | apply Kept.drew) | exact HK.out)⟩
def zau.f (k : Nat) (l0 : List Int) (a1 : ByteArray) : Option (List Int) := (zao.f k l0 (a1.size : Int)).bind fun t108 => (if t108.length + a1.size < 140737488355328 then (some (t108 ++ bytesOf a1)) else (none))
set_option maxHeartbeats 8000000 in
set_option maxRecDepth 100000 in
theorem zau.calls (k : Nat) (P0_ : Nat → Prop) (u9000_ : Value) (l0 : List Int) (a1 : ByteArray) (r : List Int) (w0 w : World) (hB : Below w0.heap.size w0 w) (ho0 : Kd.R (Kd.int .u8) 5 w w0.heap.size P0_ u9000_ l0) (h : zau.f k l0 a1 = some r) :
  Calls Try.prog 49 #[u9000_, .string a1] w fun e w' => ∃ v0_ : Value, e = .returned (v0_) ∧ Kd.R (Kd.int .u8) 5 w' w0.heap.size (fun k_ => (P0_ k_ ∨ w.heap.size ≤ k_)) v0_ r ∧ Below w0.heap.size w0 w' ∧ Kept w w' (fun k_ => P0_ k_) := by
 have HO0 := Aside0.mk (show Kd.R (Kd.int .u8) 5 w w0.heap.size (fun k_ => (P0_ k_ ∨ w.heap.size ≤ k_)) u9000_ l0 from Kd.zbh ho0 (fun k_ hk => (.inl hk)))
 have HK := Aside0.mk (Kept.refl w (fun k_ => P0_ k_))
 have HW0 := Aside0.mk hB.size
 have HB := Aside0.mk hB
 clear hB
 have H : ((zao.f k l0 (a1.size : Int)).bind fun t108 => (if t108.length + a1.size < 140737488355328 then (some (t108 ++ bytesOf a1)) else (none))) = some r := h
 clear h
 replace H := Option.bind_eq_some_iff.mp H
 obtain ⟨t108, A30, H⟩ := H
 replace H : (if t108.length + a1.size < 140737488355328 then (some (t108 ++ bytesOf a1)) else (none)) = some r := H
 have A3 := Aside0.mk A30
 clear A30
 by_cases c4 : t108.length + a1.size < 140737488355328
 ·rw [if_pos c4] at H
  have LMc4 := Aside0.mk c4
  clear c4
  obtain ⟨y111, hy111⟩ : ∃ y_ : List Int, y_ = (t108 ++ bytesOf a1) := ⟨_, rfl⟩
  replace H : (some y111) = some r := by first | (rw [hy111]; with_reducible exact H) | (have H2_ := (Option.bind_some _ _).symm.trans H; rw [hy111]; with_reducible exact H2_) | (have H2_ := (Option.bind_some _ _).symm.trans H; with_reducible exact H2_) | with_reducible exact H | (rw [hy111]; exact H) | exact H
  have Ny111 := Aside0.mk hy111
  clear hy111
  obtain rfl := Option.some.inj H
  obtain ⟨Ao5, co5, eo5⟩ := Kd.zbu HO0.out
  subst eo5
  go_enter Try.func49, Try.ntmps49
  go_wp2_with (first | ((with_reducible refine zbe (f := 48) rfl ?_); refine zcg (some 8) rfl rfl Try.func48 (by kernel_rfl) rfl #[.slice Ao5 l0.length co5, .int .i64 (a1.size : Int)] rfl (by (try simp only [List.map_toArray, List.map_cons, List.map_nil]); first | done | rfl | (simp only [List.length_drop, List.length_take]; rfl)) ?_; (with_reducible refine (zao.calls k (fun k_ => some k_ = (.slice Ao5 l0.length co5 : Value).ownBlock) (.slice Ao5 l0.length co5) l0 (a1.size : Int) t108 w0 _ ?side1 ?side2 A3.out).mono ?_); (case side1 => repeat (first | (with_reducible first | exact HB.out | apply zad | apply zac | apply zae) | exact HB.out)); (case side2 => exact Kd.zct rfl HO0.out); rintro e w6 ⟨v109, rfl, ho0, hb, hkp⟩; refine ⟨_, rfl, ?_⟩; have n0_ := Aside0.mk (Kd.zbh (ok' := fun k_ => (P0_ k_ ∨ w.heap.size ≤ k_)) ho0 (fun k_ hk_ => Or.elim hk_ (fun hs_ => (HO0.out.1 k_ (hs_).symm)) (fun hn_ => (.inr (Nat.le_trans (by first | exact HK.out.1 | exact (show Kept w _ (fun k_ => P0_ k_) from by repeat (first | (with_reducible first | exact HK.out | apply Kept.alloc | apply Kept.drewN | apply Kept.drew) | exact HK.out)).1) hn_))))); have n1_ := Aside0.mk (Kept.zje (S := (fun k_ => P0_ k_)) (by repeat (first | (with_reducible first | exact HK.out | apply Kept.alloc | apply Kept.drewN | apply Kept.drew) | exact HK.out)) hkp (fun k_ hs_ => (fun e_ => (HO0.out.1 k_ e_.symm)) hs_)); have n2_ := Aside0.mk (hb); clear HK; clear HB; clear HO0; have HO110 := n0_; have HK := n1_; have HB := n2_; clear n0_ n1_ n2_; (try clear hb); (try clear hkp); (try clear ho0)) | (at_builtin; refine Ca.zhn (w0 := w0) w0.heap.size rfl (.tmp 8) _ 27 9 5 rfl Try.underlying27 Try.underlying9 info5 v109 t108 a1 (fun k_ => (P0_ k_ ∨ w.heap.size ≤ k_)) rfl rfl ?aO ?aF ?aB ?aS ?aL ?_; (case aB => exact (by repeat (first | (with_reducible first | exact HB.out | apply zad | apply zac | apply zae) | exact HB.out))); (case aO => exact (by (with_reducible repeat (first | apply Kd.zbb | apply Kd.zba | apply Kd.zbf)); exact HO110.out)); (case aF => exact fun k_ hk_ => .inr (Nat.le_trans HK.out.1 hk_)); (case aS => exact (zaz (by repeat (first | (with_reducible first | exact HB.out | apply zad | apply zac | apply zae) | exact HB.out)))); (case aL => have := LMc4.out; omega); intro v112 w7 ho hb hg; have hat := True.intro; rw [← Ny111.out] at ho; change Kd.R (Kd.int .u8) 5 w7 w0.heap.size (fun k_ => (P0_ k_ ∨ w.heap.size ≤ k_)) v112 y111 at ho; have n0_ := Aside0.mk (hb); have n1_ := Aside0.mk (Kept.zec (S := (fun k_ => P0_ k_)) hg (by repeat (first | (with_reducible first | exact HK.out | apply Kept.alloc | apply Kept.drewN | apply Kept.drew) | exact HK.out)) (fun k_ e_ => (HO110.out.1 k_ e_))); have n2_ := Aside0.mk (ho); clear HB; clear HK; clear HO110; have HB := n0_; have HK := n1_; have HO113 := n2_; clear n0_ n1_ n2_; clear ho hb hg hat))
  go_ret
  exact ⟨_, by first | rfl | (simp [zay, zax] <;> rfl) | (simp [*, zay, zax] <;> rfl), by (with_reducible repeat (first | apply Kd.zbb | apply Kd.zba | apply Kd.zbf)); exact HO113.out, by repeat (first | (with_reducible first | exact HB.out | apply zad | apply zac | apply zae) | exact HB.out), by repeat (first | (with_reducible first | exact HK.out | apply Kept.alloc | apply Kept.drewN | apply Kept.drew) | exact HK.out)⟩
 ·rw [if_neg c4] at H
  exact absurd H (by simp)
def zbc.l0 : Nat → List Int → List ByteArray → Int → Int → Int → ByteArray → ByteArray → ByteArray → ByteArray → ByteArray → ByteArray → List ByteArray → Int → Int → Int → Option (List Int)
 | 0, _, _, _, _, _, _, _, _, _, _, _, _, _, _, _ => none
 | k + 1, x3, x39, x40, x41, x115000, x115001, x115002, x115003, x115004, x115005, x115006, x115007, x115008, x115009, x115010 => if x41 < x40 then (if 0 ≤ x41 then (if x41 < (x39.length : Int) then ((zau.f k x3 (rdOf ByteArray.empty x39 x41)).bind fun t140 => (zbc.l0 k t140 x39 x40 (wrap64 (x41 + 1)) x115000 x115001 x115002 x115003 x115004 x115005 x115006 x115007 x115008 x115009 x115010)) else (none)) else (none)) else ((zao.f k x3 x115008).bind fun t143 => ((zao.f k t143 x115009).bind fun t146 => ((zao.f k t146 x115010).bind fun t149 => (some t149))))
def zbc.f (k : Nat) (a0_0 : Int) (a0_1 : ByteArray) (a0_2 : ByteArray) (a0_3 : ByteArray) (a0_4 : ByteArray) (a0_5 : ByteArray) (a0_6 : ByteArray) (l0_7 : List ByteArray) (a0_8 : Int) (a0_9 : Int) (a0_10 : Int) : Option (List Int) := (zao.f k ([] : List Int) a0_0).bind fun t115 => ((zau.f k t115 a0_1).bind fun t118 => ((zau.f k t118 a0_2).bind fun t121 => ((zau.f k t121 a0_3).bind fun t124 => ((zau.f k t124 a0_4).bind fun t127 => ((zau.f k t127 a0_5).bind fun t130 => ((zau.f k t130 a0_6).bind fun t133 => ((zao.f k t133 (l0_7.length : Int)).bind fun t136 => (zbc.l0 k t136 l0_7 (l0_7.length : Int) 0 a0_0 a0_1 a0_2 a0_3 a0_4 a0_5 a0_6 l0_7 a0_8 a0_9 a0_10))))))))
set_option maxHeartbeats 8000000 in
set_option maxRecDepth 100000 in
theorem zbc.calls (k : Nat) (a0_0 : Int) (a0_1 : ByteArray) (a0_2 : ByteArray) (a0_3 : ByteArray) (a0_4 : ByteArray) (a0_5 : ByteArray) (a0_6 : ByteArray) (A0_7 : Option Addr) (c0_7 : Nat) (l0_7 : List ByteArray) (a0_8 : Int) (a0_9 : Int) (a0_10 : Int) (r : List Int) (w : World) (hr0_7 : Kd.C Kd.string w A0_7 l0_7.length l0_7) (hc0_7 : l0_7.length ≤ c0_7) (h : zbc.f k a0_0 a0_1 a0_2 a0_3 a0_4 a0_5 a0_6 l0_7 a0_8 a0_9 a0_10 = some r) :
  Calls Try.prog 23 #[.agg #[.int .i64 a0_0, .string a0_1, .string a0_2, .string a0_3, .string a0_4, .string a0_5, .string a0_6, .slice A0_7 l0_7.length c0_7, .int .i64 a0_8, .int .i64 a0_9, .int .i64 a0_10]] w fun e w' => ∃ v0_ : Value, e = .returned (v0_) ∧ Kd.R (Kd.int .u8) 5 w' w.heap.size (fun _ => True) v0_ r ∧ Below w.heap.size w w' := by
 have hu25 := Try.underlying25
 have HR0_7 := Aside0.mk hr0_7
 have HC0_7 := Aside0.mk hc0_7
 clear hr0_7 hc0_7
 have HB := Aside0.mk (Below.refl w.heap.size w)
 have H : ((zao.f k ([] : List Int) a0_0).bind fun t115 => ((zau.f k t115 a0_1).bind fun t118 => ((zau.f k t118 a0_2).bind fun t121 => ((zau.f k t121 a0_3).bind fun t124 => ((zau.f k t124 a0_4).bind fun t127 => ((zau.f k t127 a0_5).bind fun t130 => ((zau.f k t130 a0_6).bind fun t133 => ((zao.f k t133 (l0_7.length : Int)).bind fun t136 => (zbc.l0 k t136 l0_7 (l0_7.length : Int) 0 a0_0 a0_1 a0_2 a0_3 a0_4 a0_5 a0_6 l0_7 a0_8 a0_9 a0_10))))))))) = some r := h
 clear h
 replace H := Option.bind_eq_some_iff.mp H
 obtain ⟨t115, A20, H⟩ := H
 replace H : ((zau.f k t115 a0_1).bind fun t118 => ((zau.f k t118 a0_2).bind fun t121 => ((zau.f k t121 a0_3).bind fun t124 => ((zau.f k t124 a0_4).bind fun t127 => ((zau.f k t127 a0_5).bind fun t130 => ((zau.f k t130 a0_6).bind fun t133 => ((zao.f k t133 (l0_7.length : Int)).bind fun t136 => (zbc.l0 k t136 l0_7 (l0_7.length : Int) 0 a0_0 a0_1 a0_2 a0_3 a0_4 a0_5 a0_6 l0_7 a0_8 a0_9 a0_10)))))))) = some r := H
 have A2 := Aside0.mk A20
 clear A20
 replace H := Option.bind_eq_some_iff.mp H
 obtain ⟨t118, A30, H⟩ := H
 replace H : ((zau.f k t118 a0_2).bind fun t121 => ((zau.f k t121 a0_3).bind fun t124 => ((zau.f k t124 a0_4).bind fun t127 => ((zau.f k t127 a0_5).bind fun t130 => ((zau.f k t130 a0_6).bind fun t133 => ((zao.f k t133 (l0_7.length : Int)).bind fun t136 => (zbc.l0 k t136 l0_7 (l0_7.length : Int) 0 a0_0 a0_1 a0_2 a0_3 a0_4 a0_5 a0_6 l0_7 a0_8 a0_9 a0_10))))))) = some r := H
 have A3 := Aside0.mk A30
 clear A30
 replace H := Option.bind_eq_some_iff.mp H
 obtain ⟨t121, A40, H⟩ := H
 replace H : ((zau.f k t121 a0_3).bind fun t124 => ((zau.f k t124 a0_4).bind fun t127 => ((zau.f k t127 a0_5).bind fun t130 => ((zau.f k t130 a0_6).bind fun t133 => ((zao.f k t133 (l0_7.length : Int)).bind fun t136 => (zbc.l0 k t136 l0_7 (l0_7.length : Int) 0 a0_0 a0_1 a0_2 a0_3 a0_4 a0_5 a0_6 l0_7 a0_8 a0_9 a0_10)))))) = some r := H
 have A4 := Aside0.mk A40
 clear A40
 replace H := Option.bind_eq_some_iff.mp H
 obtain ⟨t124, A50, H⟩ := H
 replace H : ((zau.f k t124 a0_4).bind fun t127 => ((zau.f k t127 a0_5).bind fun t130 => ((zau.f k t130 a0_6).bind fun t133 => ((zao.f k t133 (l0_7.length : Int)).bind fun t136 => (zbc.l0 k t136 l0_7 (l0_7.length : Int) 0 a0_0 a0_1 a0_2 a0_3 a0_4 a0_5 a0_6 l0_7 a0_8 a0_9 a0_10))))) = some r := H
 have A5 := Aside0.mk A50
 clear A50
 replace H := Option.bind_eq_some_iff.mp H
 obtain ⟨t127, A60, H⟩ := H
 replace H : ((zau.f k t127 a0_5).bind fun t130 => ((zau.f k t130 a0_6).bind fun t133 => ((zao.f k t133 (l0_7.length : Int)).bind fun t136 => (zbc.l0 k t136 l0_7 (l0_7.length : Int) 0 a0_0 a0_1 a0_2 a0_3 a0_4 a0_5 a0_6 l0_7 a0_8 a0_9 a0_10)))) = some r := H
 have A6 := Aside0.mk A60
 clear A60
 replace H := Option.bind_eq_some_iff.mp H
 obtain ⟨t130, A70, H⟩ := H
 replace H : ((zau.f k t130 a0_6).bind fun t133 => ((zao.f k t133 (l0_7.length : Int)).bind fun t136 => (zbc.l0 k t136 l0_7 (l0_7.length : Int) 0 a0_0 a0_1 a0_2 a0_3 a0_4 a0_5 a0_6 l0_7 a0_8 a0_9 a0_10))) = some r := H
 have A7 := Aside0.mk A70
 clear A70
 replace H := Option.bind_eq_some_iff.mp H
 obtain ⟨t133, A80, H⟩ := H
 replace H : ((zao.f k t133 (l0_7.length : Int)).bind fun t136 => (zbc.l0 k t136 l0_7 (l0_7.length : Int) 0 a0_0 a0_1 a0_2 a0_3 a0_4 a0_5 a0_6 l0_7 a0_8 a0_9 a0_10)) = some r := H
 have A8 := Aside0.mk A80
 clear A80
 replace H := Option.bind_eq_some_iff.mp H
 obtain ⟨t136, A90, H⟩ := H
 replace H : (zbc.l0 k t136 l0_7 (l0_7.length : Int) 0 a0_0 a0_1 a0_2 a0_3 a0_4 a0_5 a0_6 l0_7 a0_8 a0_9 a0_10) = some r := H
 have A9 := Aside0.mk A90
 clear A90
 have H' := Aside0.mk H
 clear H
 go_enter Try.func23, Try.ntmps23
 go_wp2_with (first | ((with_reducible refine zcr (N := 1) rfl ?_); refine zcm ?hg (N := 1) ?hd (cs := #[.int .i64 a0_0, .string a0_1, .string a0_2, .string a0_3, .string a0_4, .string a0_5, .string a0_6, .slice A0_7 l0_7.length c0_7, .int .i64 a0_8, .int .i64 a0_9, .int .i64 a0_10]) (t := 25) ?hr ?_; (case hd => rfl); (case hg => rfl); (case hr => first | (go_simp; done) | (go_simp; rfl)); intro gb114 hg w10 hbox hb; have n0_ := Aside0.mk (zbl (by repeat (first | (with_reducible first | exact HB.out | apply zad | apply zac | apply zae) | exact HB.out)) hb); have n1_ := Aside0.mk (hbox); have n2_ := Aside0.mk ((by rw [hg]; exact (zaz (by repeat (first | (with_reducible first | exact HB.out | apply zad | apply zac | apply zae) | exact HB.out))) : w.heap.size ≤ gb114)); have n3_ := Aside0.mk ((by rw [hg]; exact (zaz (by repeat (first | (with_reducible first | exact HB.out | apply zad | apply zac | apply zae) | exact HB.out))) : w.heap.size ≤ gb114)); clear HB; have HB := n0_; have BK114 := n1_; have GW114 := n2_; have GE114 := n3_; clear n0_ n1_ n2_ n3_; clear hb hbox hg; have hcz11_0 : w10.cell? ⟨gb114, 0, none⟩ = some (.int .i64 a0_0) := (zaa BK114.out 0).trans rfl; have hcz11_1 : w10.cell? ⟨gb114, 1, none⟩ = some (.string a0_1) := (zaa BK114.out 1).trans rfl; have hcz11_2 : w10.cell? ⟨gb114, 2, none⟩ = some (.string a0_2) := (zaa BK114.out 2).trans rfl; have hcz11_3 : w10.cell? ⟨gb114, 3, none⟩ = some (.string a0_3) := (zaa BK114.out 3).trans rfl; have hcz11_4 : w10.cell? ⟨gb114, 4, none⟩ = some (.string a0_4) := (zaa BK114.out 4).trans rfl; have hcz11_5 : w10.cell? ⟨gb114, 5, none⟩ = some (.string a0_5) := (zaa BK114.out 5).trans rfl; have hcz11_6 : w10.cell? ⟨gb114, 6, none⟩ = some (.string a0_6) := (zaa BK114.out 6).trans rfl; have hcz11_7 : w10.cell? ⟨gb114, 7, none⟩ = some (.slice A0_7 l0_7.length c0_7) := (zaa BK114.out 7).trans rfl; have hcz11_8 : w10.cell? ⟨gb114, 8, none⟩ = some (.int .i64 a0_8) := (zaa BK114.out 8).trans rfl; have hcz11_9 : w10.cell? ⟨gb114, 9, none⟩ = some (.int .i64 a0_9) := (zaa BK114.out 9).trans rfl; have hcz11_10 : w10.cell? ⟨gb114, 10, none⟩ = some (.int .i64 a0_10) := (zaa BK114.out 10).trans rfl; have hfz11_0 := zab BK114.out 0; have hfz11_1 := zab BK114.out 1; have hfz11_2 := zab BK114.out 2; have hfz11_3 := zab BK114.out 3; have hfz11_4 := zab BK114.out 4; have hfz11_5 := zab BK114.out 5; have hfz11_6 := zab BK114.out 6; have hfz11_7 := zab BK114.out 7; have hfz11_8 := zab BK114.out 8; have hfz11_9 := zab BK114.out 9; have hfz11_10 := zab BK114.out 10) | ((with_reducible refine zbe (f := 48) rfl ?_); refine zcg (some 8) rfl rfl Try.func48 (by kernel_rfl) rfl #[.slice none 0 0, .int .i64 a0_0] rfl (by (try simp only [List.map_toArray, List.map_cons, List.map_nil]); first | done | rfl | (simp only [List.length_drop, List.length_take]; rfl)) ?_; (refine (zao.calls k (fun k_ => some k_ = (.slice none 0 0 : Value).ownBlock) (.slice none 0 0) ([] : List Int) a0_0 t115 w _ ?side1 ?side2 A2.out).mono ?_); (case side1 => repeat (first | (with_reducible first | exact HB.out | apply zad | apply zac | apply zae | refine zah ?_ GE114.out) | exact HB.out)); (case side2 => exact Kd.zdf _ _ _ _ _); rintro e w12 ⟨v116, rfl, ho0, hb, hkp⟩; refine ⟨_, rfl, ?_⟩; have n0_ := Aside0.mk (zbr (by (with_reducible repeat (first | refine zag ?_ _ | refine zai ?_ | refine zaf ?_ _)); exact BK114.out) hkp (fun hs_ => (fun e_ => by simp [Value.ownBlock] at e_) hs_)); have n1_ := Aside0.mk (Kd.zbh (ok' := fun k_ => True) ho0 (fun k_ hk_ => trivial)); have n2_ := Aside0.mk (hb); clear BK114; clear HB; have BK114 := n0_; have HO117 := n1_; have HB := n2_; clear n0_ n1_ n2_; (try clear hb); (try clear hkp); (try clear ho0); have hcz13_0 : w12.cell? ⟨gb114, 0, none⟩ = some (.int .i64 a0_0) := (zaa BK114.out 0).trans rfl; have hcz13_1 : w12.cell? ⟨gb114, 1, none⟩ = some (.string a0_1) := (zaa BK114.out 1).trans rfl; have hcz13_2 : w12.cell? ⟨gb114, 2, none⟩ = some (.string a0_2) := (zaa BK114.out 2).trans rfl; have hcz13_3 : w12.cell? ⟨gb114, 3, none⟩ = some (.string a0_3) := (zaa BK114.out 3).trans rfl; have hcz13_4 : w12.cell? ⟨gb114, 4, none⟩ = some (.string a0_4) := (zaa BK114.out 4).trans rfl; have hcz13_5 : w12.cell? ⟨gb114, 5, none⟩ = some (.string a0_5) := (zaa BK114.out 5).trans rfl; have hcz13_6 : w12.cell? ⟨gb114, 6, none⟩ = some (.string a0_6) := (zaa BK114.out 6).trans rfl; have hcz13_7 : w12.cell? ⟨gb114, 7, none⟩ = some (.slice A0_7 l0_7.length c0_7) := (zaa BK114.out 7).trans rfl; have hcz13_8 : w12.cell? ⟨gb114, 8, none⟩ = some (.int .i64 a0_8) := (zaa BK114.out 8).trans rfl; have hcz13_9 : w12.cell? ⟨gb114, 9, none⟩ = some (.int .i64 a0_9) := (zaa BK114.out 9).trans rfl; have hcz13_10 : w12.cell? ⟨gb114, 10, none⟩ = some (.int .i64 a0_10) := (zaa BK114.out 10).trans rfl; have hfz13_0 := zab BK114.out 0; have hfz13_1 := zab BK114.out 1; have hfz13_2 := zab BK114.out 2; have hfz13_3 := zab BK114.out 3; have hfz13_4 := zab BK114.out 4; have hfz13_5 := zab BK114.out 5; have hfz13_6 := zab BK114.out 6; have hfz13_7 := zab BK114.out 7; have hfz13_8 := zab BK114.out 8; have hfz13_9 := zab BK114.out 9; have hfz13_10 := zab BK114.out 10; obtain ⟨Ao14, co14, eo14⟩ := Kd.zbu HO117.out; subst eo14) | ((with_reducible refine zbe (f := 49) rfl ?_); refine zcg (some 12) rfl rfl Try.func49 (by kernel_rfl) rfl #[.slice Ao14 t115.length co14, .string a0_1] rfl (by (try simp only [List.map_toArray, List.map_cons, List.map_nil]); first | done | rfl | (simp only [List.length_drop, List.length_take]; rfl)) ?_; (with_reducible refine (zau.calls k (fun k_ => some k_ = (.slice Ao14 t115.length co14 : Value).ownBlock) (.slice Ao14 t115.length co14) t115 a0_1 t118 w _ ?side1 ?side2 A3.out).mono ?_); (case side1 => repeat (first | (with_reducible first | exact HB.out | apply zad | apply zac | apply zae | refine zah ?_ GE114.out) | exact HB.out)); (case side2 => exact Kd.zct rfl HO117.out); rintro e w15 ⟨v119, rfl, ho0, hb, hkp⟩; refine ⟨_, rfl, ?_⟩; have n0_ := Aside0.mk (zbr (by (with_reducible repeat (first | refine zag ?_ _ | refine zai ?_ | refine zaf ?_ _)); exact BK114.out) hkp (fun hs_ => (fun e_ => (Kd.R_ne HO117.out BK114.out (by decide)) e_) hs_)); have n1_ := Aside0.mk (Kd.zbh (ok' := fun k_ => True) ho0 (fun k_ hk_ => trivial)); have n2_ := Aside0.mk (hb); clear BK114; clear HB; clear HO117; have BK114 := n0_; have HO120 := n1_; have HB := n2_; clear n0_ n1_ n2_; (try clear hb); (try clear hkp); (try clear ho0); have hcz16_0 : w15.cell? ⟨gb114, 0, none⟩ = some (.int .i64 a0_0) := (zaa BK114.out 0).trans rfl; have hcz16_1 : w15.cell? ⟨gb114, 1, none⟩ = some (.string a0_1) := (zaa BK114.out 1).trans rfl; have hcz16_2 : w15.cell? ⟨gb114, 2, none⟩ = some (.string a0_2) := (zaa BK114.out 2).trans rfl; have hcz16_3 : w15.cell? ⟨gb114, 3, none⟩ = some (.string a0_3) := (zaa BK114.out 3).trans rfl; have hcz16_4 : w15.cell? ⟨gb114, 4, none⟩ = some (.string a0_4) := (zaa BK114.out 4).trans rfl; have hcz16_5 : w15.cell? ⟨gb114, 5, none⟩ = some (.string a0_5) := (zaa BK114.out 5).trans rfl; have hcz16_6 : w15.cell? ⟨gb114, 6, none⟩ = some (.string a0_6) := (zaa BK114.out 6).trans rfl; have hcz16_7 : w15.cell? ⟨gb114, 7, none⟩ = some (.slice A0_7 l0_7.length c0_7) := (zaa BK114.out 7).trans rfl; have hcz16_8 : w15.cell? ⟨gb114, 8, none⟩ = some (.int .i64 a0_8) := (zaa BK114.out 8).trans rfl; have hcz16_9 : w15.cell? ⟨gb114, 9, none⟩ = some (.int .i64 a0_9) := (zaa BK114.out 9).trans rfl; have hcz16_10 : w15.cell? ⟨gb114, 10, none⟩ = some (.int .i64 a0_10) := (zaa BK114.out 10).trans rfl; have hfz16_0 := zab BK114.out 0; have hfz16_1 := zab BK114.out 1; have hfz16_2 := zab BK114.out 2; have hfz16_3 := zab BK114.out 3; have hfz16_4 := zab BK114.out 4; have hfz16_5 := zab BK114.out 5; have hfz16_6 := zab BK114.out 6; have hfz16_7 := zab BK114.out 7; have hfz16_8 := zab BK114.out 8; have hfz16_9 := zab BK114.out 9; have hfz16_10 := zab BK114.out 10; obtain ⟨Ao17, co17, eo17⟩ := Kd.zbu HO120.out; subst eo17) | ((with_reducible refine zbe (f := 49) rfl ?_); refine zcg (some 16) rfl rfl Try.func49 (by kernel_rfl) rfl #[.slice Ao17 t118.length co17, .string a0_2] rfl (by (try simp only [List.map_toArray, List.map_cons, List.map_nil]); first | done | rfl | (simp only [List.length_drop, List.length_take]; rfl)) ?_; (with_reducible refine (zau.calls k (fun k_ => some k_ = (.slice Ao17 t118.length co17 : Value).ownBlock) (.slice Ao17 t118.length co17) t118 a0_2 t121 w _ ?side1 ?side2 A4.out).mono ?_); (case side1 => repeat (first | (with_reducible first | exact HB.out | apply zad | apply zac | apply zae | refine zah ?_ GE114.out) | exact HB.out)); (case side2 => exact Kd.zct rfl HO120.out); rintro e w18 ⟨v122, rfl, ho0, hb, hkp⟩; refine ⟨_, rfl, ?_⟩; have n0_ := Aside0.mk (zbr (by (with_reducible repeat (first | refine zag ?_ _ | refine zai ?_ | refine zaf ?_ _)); exact BK114.out) hkp (fun hs_ => (fun e_ => (Kd.R_ne HO120.out BK114.out (by decide)) e_) hs_)); have n1_ := Aside0.mk (Kd.zbh (ok' := fun k_ => True) ho0 (fun k_ hk_ => trivial)); have n2_ := Aside0.mk (hb); clear BK114; clear HB; clear HO120; have BK114 := n0_; have HO123 := n1_; have HB := n2_; clear n0_ n1_ n2_; (try clear hb); (try clear hkp); (try clear ho0); have hcz19_0 : w18.cell? ⟨gb114, 0, none⟩ = some (.int .i64 a0_0) := (zaa BK114.out 0).trans rfl; have hcz19_1 : w18.cell? ⟨gb114, 1, none⟩ = some (.string a0_1) := (zaa BK114.out 1).trans rfl; have hcz19_2 : w18.cell? ⟨gb114, 2, none⟩ = some (.string a0_2) := (zaa BK114.out 2).trans rfl; have hcz19_3 : w18.cell? ⟨gb114, 3, none⟩ = some (.string a0_3) := (zaa BK114.out 3).trans rfl; have hcz19_4 : w18.cell? ⟨gb114, 4, none⟩ = some (.string a0_4) := (zaa BK114.out 4).trans rfl; have hcz19_5 : w18.cell? ⟨gb114, 5, none⟩ = some (.string a0_5) := (zaa BK114.out 5).trans rfl; have hcz19_6 : w18.cell? ⟨gb114, 6, none⟩ = some (.string a0_6) := (zaa BK114.out 6).trans rfl; have hcz19_7 : w18.cell? ⟨gb114, 7, none⟩ = some (.slice A0_7 l0_7.length c0_7) := (zaa BK114.out 7).trans rfl; have hcz19_8 : w18.cell? ⟨gb114, 8, none⟩ = some (.int .i64 a0_8) := (zaa BK114.out 8).trans rfl; have hcz19_9 : w18.cell? ⟨gb114, 9, none⟩ = some (.int .i64 a0_9) := (zaa BK114.out 9).trans rfl; have hcz19_10 : w18.cell? ⟨gb114, 10, none⟩ = some (.int .i64 a0_10) := (zaa BK114.out 10).trans rfl; have hfz19_0 := zab BK114.out 0; have hfz19_1 := zab BK114.out 1; have hfz19_2 := zab BK114.out 2; have hfz19_3 := zab BK114.out 3; have hfz19_4 := zab BK114.out 4; have hfz19_5 := zab BK114.out 5; have hfz19_6 := zab BK114.out 6; have hfz19_7 := zab BK114.out 7; have hfz19_8 := zab BK114.out 8; have hfz19_9 := zab BK114.out 9; have hfz19_10 := zab BK114.out 10; obtain ⟨Ao20, co20, eo20⟩ := Kd.zbu HO123.out; subst eo20) | ((with_reducible refine zbe (f := 49) rfl ?_); refine zcg (some 20) rfl rfl Try.func49 (by kernel_rfl) rfl #[.slice Ao20 t121.length co20, .string a0_3] rfl (by (try simp only [List.map_toArray, List.map_cons, List.map_nil]); first | done | rfl | (simp only [List.length_drop, List.length_take]; rfl)) ?_; (with_reducible refine (zau.calls k (fun k_ => some k_ = (.slice Ao20 t121.length co20 : Value).ownBlock) (.slice Ao20 t121.length co20) t121 a0_3 t124 w _ ?side1 ?side2 A5.out).mono ?_); (case side1 => repeat (first | (with_reducible first | exact HB.out | apply zad | apply zac | apply zae | refine zah ?_ GE114.out) | exact HB.out)); (case side2 => exact Kd.zct rfl HO123.out); rintro e w21 ⟨v125, rfl, ho0, hb, hkp⟩; refine ⟨_, rfl, ?_⟩; have n0_ := Aside0.mk (zbr (by (with_reducible repeat (first | refine zag ?_ _ | refine zai ?_ | refine zaf ?_ _)); exact BK114.out) hkp (fun hs_ => (fun e_ => (Kd.R_ne HO123.out BK114.out (by decide)) e_) hs_)); have n1_ := Aside0.mk (Kd.zbh (ok' := fun k_ => True) ho0 (fun k_ hk_ => trivial)); have n2_ := Aside0.mk (hb); clear BK114; clear HB; clear HO123; have BK114 := n0_; have HO126 := n1_; have HB := n2_; clear n0_ n1_ n2_; (try clear hb); (try clear hkp); (try clear ho0); have hcz22_0 : w21.cell? ⟨gb114, 0, none⟩ = some (.int .i64 a0_0) := (zaa BK114.out 0).trans rfl; have hcz22_1 : w21.cell? ⟨gb114, 1, none⟩ = some (.string a0_1) := (zaa BK114.out 1).trans rfl; have hcz22_2 : w21.cell? ⟨gb114, 2, none⟩ = some (.string a0_2) := (zaa BK114.out 2).trans rfl; have hcz22_3 : w21.cell? ⟨gb114, 3, none⟩ = some (.string a0_3) := (zaa BK114.out 3).trans rfl; have hcz22_4 : w21.cell? ⟨gb114, 4, none⟩ = some (.string a0_4) := (zaa BK114.out 4).trans rfl; have hcz22_5 : w21.cell? ⟨gb114, 5, none⟩ = some (.string a0_5) := (zaa BK114.out 5).trans rfl; have hcz22_6 : w21.cell? ⟨gb114, 6, none⟩ = some (.string a0_6) := (zaa BK114.out 6).trans rfl; have hcz22_7 : w21.cell? ⟨gb114, 7, none⟩ = some (.slice A0_7 l0_7.length c0_7) := (zaa BK114.out 7).trans rfl; have hcz22_8 : w21.cell? ⟨gb114, 8, none⟩ = some (.int .i64 a0_8) := (zaa BK114.out 8).trans rfl; have hcz22_9 : w21.cell? ⟨gb114, 9, none⟩ = some (.int .i64 a0_9) := (zaa BK114.out 9).trans rfl; have hcz22_10 : w21.cell? ⟨gb114, 10, none⟩ = some (.int .i64 a0_10) := (zaa BK114.out 10).trans rfl; have hfz22_0 := zab BK114.out 0; have hfz22_1 := zab BK114.out 1; have hfz22_2 := zab BK114.out 2; have hfz22_3 := zab BK114.out 3; have hfz22_4 := zab BK114.out 4; have hfz22_5 := zab BK114.out 5; have hfz22_6 := zab BK114.out 6; have hfz22_7 := zab BK114.out 7; have hfz22_8 := zab BK114.out 8; have hfz22_9 := zab BK114.out 9; have hfz22_10 := zab BK114.out 10; obtain ⟨Ao23, co23, eo23⟩ := Kd.zbu HO126.out; subst eo23) | ((with_reducible refine zbe (f := 49) rfl ?_); refine zcg (some 24) rfl rfl Try.func49 (by kernel_rfl) rfl #[.slice Ao23 t124.length co23, .string a0_4] rfl (by (try simp only [List.map_toArray, List.map_cons, List.map_nil]); first | done | rfl | (simp only [List.length_drop, List.length_take]; rfl)) ?_; (with_reducible refine (zau.calls k (fun k_ => some k_ = (.slice Ao23 t124.length co23 : Value).ownBlock) (.slice Ao23 t124.length co23) t124 a0_4 t127 w _ ?side1 ?side2 A6.out).mono ?_); (case side1 => repeat (first | (with_reducible first | exact HB.out | apply zad | apply zac | apply zae | refine zah ?_ GE114.out) | exact HB.out)); (case side2 => exact Kd.zct rfl HO126.out); rintro e w24 ⟨v128, rfl, ho0, hb, hkp⟩; refine ⟨_, rfl, ?_⟩; have n0_ := Aside0.mk (zbr (by (with_reducible repeat (first | refine zag ?_ _ | refine zai ?_ | refine zaf ?_ _)); exact BK114.out) hkp (fun hs_ => (fun e_ => (Kd.R_ne HO126.out BK114.out (by decide)) e_) hs_)); have n1_ := Aside0.mk (Kd.zbh (ok' := fun k_ => True) ho0 (fun k_ hk_ => trivial)); have n2_ := Aside0.mk (hb); clear BK114; clear HB; clear HO126; have BK114 := n0_; have HO129 := n1_; have HB := n2_; clear n0_ n1_ n2_; (try clear hb); (try clear hkp); (try clear ho0); have hcz25_0 : w24.cell? ⟨gb114, 0, none⟩ = some (.int .i64 a0_0) := (zaa BK114.out 0).trans rfl; have hcz25_1 : w24.cell? ⟨gb114, 1, none⟩ = some (.string a0_1) := (zaa BK114.out 1).trans rfl; have hcz25_2 : w24.cell? ⟨gb114, 2, none⟩ = some (.string a0_2) := (zaa BK114.out 2).trans rfl; have hcz25_3 : w24.cell? ⟨gb114, 3, none⟩ = some (.string a0_3) := (zaa BK114.out 3).trans rfl; have hcz25_4 : w24.cell? ⟨gb114, 4, none⟩ = some (.string a0_4) := (zaa BK114.out 4).trans rfl; have hcz25_5 : w24.cell? ⟨gb114, 5, none⟩ = some (.string a0_5) := (zaa BK114.out 5).trans rfl; have hcz25_6 : w24.cell? ⟨gb114, 6, none⟩ = some (.string a0_6) := (zaa BK114.out 6).trans rfl; have hcz25_7 : w24.cell? ⟨gb114, 7, none⟩ = some (.slice A0_7 l0_7.length c0_7) := (zaa BK114.out 7).trans rfl; have hcz25_8 : w24.cell? ⟨gb114, 8, none⟩ = some (.int .i64 a0_8) := (zaa BK114.out 8).trans rfl; have hcz25_9 : w24.cell? ⟨gb114, 9, none⟩ = some (.int .i64 a0_9) := (zaa BK114.out 9).trans rfl; have hcz25_10 : w24.cell? ⟨gb114, 10, none⟩ = some (.int .i64 a0_10) := (zaa BK114.out 10).trans rfl; have hfz25_0 := zab BK114.out 0; have hfz25_1 := zab BK114.out 1; have hfz25_2 := zab BK114.out 2; have hfz25_3 := zab BK114.out 3; have hfz25_4 := zab BK114.out 4; have hfz25_5 := zab BK114.out 5; have hfz25_6 := zab BK114.out 6; have hfz25_7 := zab BK114.out 7; have hfz25_8 := zab BK114.out 8; have hfz25_9 := zab BK114.out 9; have hfz25_10 := zab BK114.out 10; obtain ⟨Ao26, co26, eo26⟩ := Kd.zbu HO129.out; subst eo26) | ((with_reducible refine zbe (f := 49) rfl ?_); refine zcg (some 28) rfl rfl Try.func49 (by kernel_rfl) rfl #[.slice Ao26 t127.length co26, .string a0_5] rfl (by (try simp only [List.map_toArray, List.map_cons, List.map_nil]); first | done | rfl | (simp only [List.length_drop, List.length_take]; rfl)) ?_; (with_reducible refine (zau.calls k (fun k_ => some k_ = (.slice Ao26 t127.length co26 : Value).ownBlock) (.slice Ao26 t127.length co26) t127 a0_5 t130 w _ ?side1 ?side2 A7.out).mono ?_); (case side1 => repeat (first | (with_reducible first | exact HB.out | apply zad | apply zac | apply zae | refine zah ?_ GE114.out) | exact HB.out)); (case side2 => exact Kd.zct rfl HO129.out); rintro e w27 ⟨v131, rfl, ho0, hb, hkp⟩; refine ⟨_, rfl, ?_⟩; have n0_ := Aside0.mk (zbr (by (with_reducible repeat (first | refine zag ?_ _ | refine zai ?_ | refine zaf ?_ _)); exact BK114.out) hkp (fun hs_ => (fun e_ => (Kd.R_ne HO129.out BK114.out (by decide)) e_) hs_)); have n1_ := Aside0.mk (Kd.zbh (ok' := fun k_ => True) ho0 (fun k_ hk_ => trivial)); have n2_ := Aside0.mk (hb); clear BK114; clear HB; clear HO129; have BK114 := n0_; have HO132 := n1_; have HB := n2_; clear n0_ n1_ n2_; (try clear hb); (try clear hkp); (try clear ho0); have hcz28_0 : w27.cell? ⟨gb114, 0, none⟩ = some (.int .i64 a0_0) := (zaa BK114.out 0).trans rfl; have hcz28_1 : w27.cell? ⟨gb114, 1, none⟩ = some (.string a0_1) := (zaa BK114.out 1).trans rfl; have hcz28_2 : w27.cell? ⟨gb114, 2, none⟩ = some (.string a0_2) := (zaa BK114.out 2).trans rfl; have hcz28_3 : w27.cell? ⟨gb114, 3, none⟩ = some (.string a0_3) := (zaa BK114.out 3).trans rfl; have hcz28_4 : w27.cell? ⟨gb114, 4, none⟩ = some (.string a0_4) := (zaa BK114.out 4).trans rfl; have hcz28_5 : w27.cell? ⟨gb114, 5, none⟩ = some (.string a0_5) := (zaa BK114.out 5).trans rfl; have hcz28_6 : w27.cell? ⟨gb114, 6, none⟩ = some (.string a0_6) := (zaa BK114.out 6).trans rfl; have hcz28_7 : w27.cell? ⟨gb114, 7, none⟩ = some (.slice A0_7 l0_7.length c0_7) := (zaa BK114.out 7).trans rfl; have hcz28_8 : w27.cell? ⟨gb114, 8, none⟩ = some (.int .i64 a0_8) := (zaa BK114.out 8).trans rfl; have hcz28_9 : w27.cell? ⟨gb114, 9, none⟩ = some (.int .i64 a0_9) := (zaa BK114.out 9).trans rfl; have hcz28_10 : w27.cell? ⟨gb114, 10, none⟩ = some (.int .i64 a0_10) := (zaa BK114.out 10).trans rfl; have hfz28_0 := zab BK114.out 0; have hfz28_1 := zab BK114.out 1; have hfz28_2 := zab BK114.out 2; have hfz28_3 := zab BK114.out 3; have hfz28_4 := zab BK114.out 4; have hfz28_5 := zab BK114.out 5; have hfz28_6 := zab BK114.out 6; have hfz28_7 := zab BK114.out 7; have hfz28_8 := zab BK114.out 8; have hfz28_9 := zab BK114.out 9; have hfz28_10 := zab BK114.out 10; obtain ⟨Ao29, co29, eo29⟩ := Kd.zbu HO132.out; subst eo29) | ((with_reducible refine zbe (f := 49) rfl ?_); refine zcg (some 32) rfl rfl Try.func49 (by kernel_rfl) rfl #[.slice Ao29 t130.length co29, .string a0_6] rfl (by (try simp only [List.map_toArray, List.map_cons, List.map_nil]); first | done | rfl | (simp only [List.length_drop, List.length_take]; rfl)) ?_; (with_reducible refine (zau.calls k (fun k_ => some k_ = (.slice Ao29 t130.length co29 : Value).ownBlock) (.slice Ao29 t130.length co29) t130 a0_6 t133 w _ ?side1 ?side2 A8.out).mono ?_); (case side1 => repeat (first | (with_reducible first | exact HB.out | apply zad | apply zac | apply zae | refine zah ?_ GE114.out) | exact HB.out)); (case side2 => exact Kd.zct rfl HO132.out); rintro e w30 ⟨v134, rfl, ho0, hb, hkp⟩; refine ⟨_, rfl, ?_⟩; have n0_ := Aside0.mk (zbr (by (with_reducible repeat (first | refine zag ?_ _ | refine zai ?_ | refine zaf ?_ _)); exact BK114.out) hkp (fun hs_ => (fun e_ => (Kd.R_ne HO132.out BK114.out (by decide)) e_) hs_)); have n1_ := Aside0.mk (Kd.zbh (ok' := fun k_ => True) ho0 (fun k_ hk_ => trivial)); have n2_ := Aside0.mk (hb); clear BK114; clear HB; clear HO132; have BK114 := n0_; have HO135 := n1_; have HB := n2_; clear n0_ n1_ n2_; (try clear hb); (try clear hkp); (try clear ho0); have hcz31_0 : w30.cell? ⟨gb114, 0, none⟩ = some (.int .i64 a0_0) := (zaa BK114.out 0).trans rfl; have hcz31_1 : w30.cell? ⟨gb114, 1, none⟩ = some (.string a0_1) := (zaa BK114.out 1).trans rfl; have hcz31_2 : w30.cell? ⟨gb114, 2, none⟩ = some (.string a0_2) := (zaa BK114.out 2).trans rfl; have hcz31_3 : w30.cell? ⟨gb114, 3, none⟩ = some (.string a0_3) := (zaa BK114.out 3).trans rfl; have hcz31_4 : w30.cell? ⟨gb114, 4, none⟩ = some (.string a0_4) := (zaa BK114.out 4).trans rfl; have hcz31_5 : w30.cell? ⟨gb114, 5, none⟩ = some (.string a0_5) := (zaa BK114.out 5).trans rfl; have hcz31_6 : w30.cell? ⟨gb114, 6, none⟩ = some (.string a0_6) := (zaa BK114.out 6).trans rfl; have hcz31_7 : w30.cell? ⟨gb114, 7, none⟩ = some (.slice A0_7 l0_7.length c0_7) := (zaa BK114.out 7).trans rfl; have hcz31_8 : w30.cell? ⟨gb114, 8, none⟩ = some (.int .i64 a0_8) := (zaa BK114.out 8).trans rfl; have hcz31_9 : w30.cell? ⟨gb114, 9, none⟩ = some (.int .i64 a0_9) := (zaa BK114.out 9).trans rfl; have hcz31_10 : w30.cell? ⟨gb114, 10, none⟩ = some (.int .i64 a0_10) := (zaa BK114.out 10).trans rfl; have hfz31_0 := zab BK114.out 0; have hfz31_1 := zab BK114.out 1; have hfz31_2 := zab BK114.out 2; have hfz31_3 := zab BK114.out 3; have hfz31_4 := zab BK114.out 4; have hfz31_5 := zab BK114.out 5; have hfz31_6 := zab BK114.out 6; have hfz31_7 := zab BK114.out 7; have hfz31_8 := zab BK114.out 8; have hfz31_9 := zab BK114.out 9; have hfz31_10 := zab BK114.out 10; obtain ⟨Ao32, co32, eo32⟩ := Kd.zbu HO135.out; subst eo32) | ((with_reducible refine zbe (f := 48) rfl ?_); refine zcg (some 37) rfl rfl Try.func48 (by kernel_rfl) rfl #[.slice Ao32 t133.length co32, .int .i64 (l0_7.length : Int)] rfl (by (try simp only [List.map_toArray, List.map_cons, List.map_nil]); first | done | rfl | (simp only [List.length_drop, List.length_take]; rfl)) ?_; (with_reducible refine (zao.calls k (fun k_ => some k_ = (.slice Ao32 t133.length co32 : Value).ownBlock) (.slice Ao32 t133.length co32) t133 (l0_7.length : Int) t136 w _ ?side1 ?side2 A9.out).mono ?_); (case side1 => repeat (first | (with_reducible first | exact HB.out | apply zad | apply zac | apply zae | refine zah ?_ GE114.out) | exact HB.out)); (case side2 => exact Kd.zct rfl HO135.out); rintro e w33 ⟨v137, rfl, ho0, hb, hkp⟩; refine ⟨_, rfl, ?_⟩; have n0_ := Aside0.mk (zbr (by (with_reducible repeat (first | refine zag ?_ _ | refine zai ?_ | refine zaf ?_ _)); exact BK114.out) hkp (fun hs_ => (fun e_ => (Kd.R_ne HO135.out BK114.out (by decide)) e_) hs_)); have n1_ := Aside0.mk (Kd.zbh (ok' := fun k_ => True) ho0 (fun k_ hk_ => trivial)); have n2_ := Aside0.mk (hb); clear BK114; clear HB; clear HO135; have BK114 := n0_; have HO138 := n1_; have HB := n2_; clear n0_ n1_ n2_; (try clear hb); (try clear hkp); (try clear ho0); have hcz34_0 : w33.cell? ⟨gb114, 0, none⟩ = some (.int .i64 a0_0) := (zaa BK114.out 0).trans rfl; have hcz34_1 : w33.cell? ⟨gb114, 1, none⟩ = some (.string a0_1) := (zaa BK114.out 1).trans rfl; have hcz34_2 : w33.cell? ⟨gb114, 2, none⟩ = some (.string a0_2) := (zaa BK114.out 2).trans rfl; have hcz34_3 : w33.cell? ⟨gb114, 3, none⟩ = some (.string a0_3) := (zaa BK114.out 3).trans rfl; have hcz34_4 : w33.cell? ⟨gb114, 4, none⟩ = some (.string a0_4) := (zaa BK114.out 4).trans rfl; have hcz34_5 : w33.cell? ⟨gb114, 5, none⟩ = some (.string a0_5) := (zaa BK114.out 5).trans rfl; have hcz34_6 : w33.cell? ⟨gb114, 6, none⟩ = some (.string a0_6) := (zaa BK114.out 6).trans rfl; have hcz34_7 : w33.cell? ⟨gb114, 7, none⟩ = some (.slice A0_7 l0_7.length c0_7) := (zaa BK114.out 7).trans rfl; have hcz34_8 : w33.cell? ⟨gb114, 8, none⟩ = some (.int .i64 a0_8) := (zaa BK114.out 8).trans rfl; have hcz34_9 : w33.cell? ⟨gb114, 9, none⟩ = some (.int .i64 a0_9) := (zaa BK114.out 9).trans rfl; have hcz34_10 : w33.cell? ⟨gb114, 10, none⟩ = some (.int .i64 a0_10) := (zaa BK114.out 10).trans rfl; have hfz34_0 := zab BK114.out 0; have hfz34_1 := zab BK114.out 1; have hfz34_2 := zab BK114.out 2; have hfz34_3 := zab BK114.out 3; have hfz34_4 := zab BK114.out 4; have hfz34_5 := zab BK114.out 5; have hfz34_6 := zab BK114.out 6; have hfz34_7 := zab BK114.out 7; have hfz34_8 := zab BK114.out 8; have hfz34_9 := zab BK114.out 9; have hfz34_10 := zab BK114.out 10))
 go_loopg [3, 41] k (fun kq v3 v41 w' => ∃ (x3_1 : List Int) (x41_1 : Int), v41 = .int .i64 x41_1 ∧ Aside0 (zbc.l0 kq x3_1 l0_7 (l0_7.length : Int) x41_1 a0_0 a0_1 a0_2 a0_3 a0_4 a0_5 a0_6 l0_7 a0_8 a0_9 a0_10 = some r) ∧ Aside0 (kq ≤ k) ∧ Aside0 (Kd.R (Kd.int .u8) 5 w' w.heap.size (fun _ => True) v3 x3_1) ∧ Aside0 (w'.heap[gb114]? = some (.cells #[.int .i64 a0_0, .string a0_1, .string a0_2, .string a0_3, .string a0_4, .string a0_5, .string a0_6, (.slice A0_7 l0_7.length c0_7), .int .i64 a0_8, .int .i64 a0_9, .int .i64 a0_10] 25 (0, 0))) ∧ Aside0 (Below w.heap.size w w'))
 case atStart => exact ⟨(t136), (0), (by first | rfl | (simp; done) | (simp [*]; done)), H', ⟨Nat.le_refl _⟩, ⟨by (with_reducible repeat (first | apply Kd.zbb | apply Kd.zba | apply Kd.zbf)); exact HO138.out⟩, ⟨by (with_reducible repeat (first | refine zag ?_ _ | refine zai ?_ | refine zaf ?_ _)); exact BK114.out⟩, ⟨by repeat (first | (with_reducible first | exact HB.out | apply zad | apply zac | apply zae | refine zah ?_ GE114.out) | exact HB.out)⟩⟩
 case round =>
  clear H'
  try clear c2
  try clear p2
  try clear c4
  try clear c23
  try clear hcz11_0
  try clear hcz11_1
  try clear hcz11_10
  try clear hcz11_2
  try clear hcz11_3
  try clear hcz11_4
  try clear hcz11_5
  try clear hcz11_6
  try clear hcz11_7
  try clear hcz11_8
  try clear hcz11_9
  try clear hcz13_0
  try clear hcz13_1
  try clear hcz13_10
  try clear hcz13_2
  try clear hcz13_3
  try clear hcz13_4
  try clear hcz13_5
  try clear hcz13_6
  try clear hcz13_7
  try clear hcz13_8
  try clear hcz13_9
  try clear hcz16_0
  try clear hcz16_1
  try clear hcz16_10
  try clear hcz16_2
  try clear hcz16_3
  try clear hcz16_4
  try clear hcz16_5
  try clear hcz16_6
  try clear hcz16_7
  try clear hcz16_8
  try clear hcz16_9
  try clear hcz19_0
  try clear hcz19_1
  try clear hcz19_10
  try clear hcz19_2
  try clear hcz19_3
  try clear hcz19_4
  try clear hcz19_5
  try clear hcz19_6
  try clear hcz19_7
  try clear hcz19_8
  try clear hcz19_9
  try clear hcz22_0
  try clear hcz22_1
  try clear hcz22_10
  try clear hcz22_2
  try clear hcz22_3
  try clear hcz22_4
  try clear hcz22_5
  try clear hcz22_6
  try clear hcz22_7
  try clear hcz22_8
  try clear hcz22_9
  try clear hcz25_0
  try clear hcz25_1
  try clear hcz25_10
  try clear hcz25_2
  try clear hcz25_3
  try clear hcz25_4
  try clear hcz25_5
  try clear hcz25_6
  try clear hcz25_7
  try clear hcz25_8
  try clear hcz25_9
  try clear hcz28_0
  try clear hcz28_1
  try clear hcz28_10
  try clear hcz28_2
  try clear hcz28_3
  try clear hcz28_4
  try clear hcz28_5
  try clear hcz28_6
  try clear hcz28_7
  try clear hcz28_8
  try clear hcz28_9
  try clear hcz31_0
  try clear hcz31_1
  try clear hcz31_10
  try clear hcz31_2
  try clear hcz31_3
  try clear hcz31_4
  try clear hcz31_5
  try clear hcz31_6
  try clear hcz31_7
  try clear hcz31_8
  try clear hcz31_9
  try clear hcz34_0
  try clear hcz34_1
  try clear hcz34_10
  try clear hcz34_2
  try clear hcz34_3
  try clear hcz34_4
  try clear hcz34_5
  try clear hcz34_6
  try clear hcz34_7
  try clear hcz34_8
  try clear hcz34_9
  try clear hfz11_0
  try clear hfz11_1
  try clear hfz11_10
  try clear hfz11_2
  try clear hfz11_3
  try clear hfz11_4
  try clear hfz11_5
  try clear hfz11_6
  try clear hfz11_7
  try clear hfz11_8
  try clear hfz11_9
  try clear hfz13_0
  try clear hfz13_1
  try clear hfz13_10
  try clear hfz13_2
  try clear hfz13_3
  try clear hfz13_4
  try clear hfz13_5
  try clear hfz13_6
  try clear hfz13_7
  try clear hfz13_8
  try clear hfz13_9
  try clear hfz16_0
  try clear hfz16_1
  try clear hfz16_10
  try clear hfz16_2
  try clear hfz16_3
  try clear hfz16_4
  try clear hfz16_5
  try clear hfz16_6
  try clear hfz16_7
  try clear hfz16_8
  try clear hfz16_9
  try clear hfz19_0
  try clear hfz19_1
  try clear hfz19_10
  try clear hfz19_2
  try clear hfz19_3
  try clear hfz19_4
  try clear hfz19_5
  try clear hfz19_6
  try clear hfz19_7
  try clear hfz19_8
  try clear hfz19_9
  try clear hfz22_0
  try clear hfz22_1
  try clear hfz22_10
  try clear hfz22_2
  try clear hfz22_3
  try clear hfz22_4
  try clear hfz22_5
  try clear hfz22_6
  try clear hfz22_7
  try clear hfz22_8
  try clear hfz22_9
  try clear hfz25_0
  try clear hfz25_1
  try clear hfz25_10
  try clear hfz25_2
  try clear hfz25_3
  try clear hfz25_4
  try clear hfz25_5
  try clear hfz25_6
  try clear hfz25_7
  try clear hfz25_8
  try clear hfz25_9
  try clear hfz28_0
  try clear hfz28_1
  try clear hfz28_10
  try clear hfz28_2
  try clear hfz28_3
  try clear hfz28_4
  try clear hfz28_5
  try clear hfz28_6
  try clear hfz28_7
  try clear hfz28_8
  try clear hfz28_9
  try clear hfz31_0
  try clear hfz31_1
  try clear hfz31_10
  try clear hfz31_2
  try clear hfz31_3
  try clear hfz31_4
  try clear hfz31_5
  try clear hfz31_6
  try clear hfz31_7
  try clear hfz31_8
  try clear hfz31_9
  try clear hfz34_0
  try clear hfz34_1
  try clear hfz34_10
  try clear hfz34_2
  try clear hfz34_3
  try clear hfz34_4
  try clear hfz34_5
  try clear hfz34_6
  try clear hfz34_7
  try clear hfz34_8
  try clear hfz34_9
  obtain ⟨x3_1, x41_1, rfl, HA, HK1, HO_3, BK114, HB⟩ := hrel
  cases gk with
  | zero => exact absurd HA.out (by simp [zbc.l0])
  | succ k1 =>
   have H := HA.out
   clear HA
   simp only [zbc.l0] at H
   by_cases c35 : x41_1 < (l0_7.length : Int)
   ·rw [if_pos c35] at H
    have c35b0 : decide (x41_1 < (l0_7.length : Int)) = true := decide_eq_true c35
    clear c35
    by_cases c36 : 0 ≤ x41_1
    ·rw [if_pos c36] at H
     have c36b0 : decide (0 ≤ x41_1) = true := decide_eq_true c36
     clear c36
     by_cases c37 : x41_1 < (l0_7.length : Int)
     ·rw [if_pos c37] at H
      have c37b0 : decide (x41_1 < (l0_7.length : Int)) = true := decide_eq_true c37
      clear c37
      replace H := Option.bind_eq_some_iff.mp H
      obtain ⟨t140, A380, H⟩ := H
      replace H : (zbc.l0 k1 t140 l0_7 (l0_7.length : Int) (wrap64 (x41_1 + 1)) a0_0 a0_1 a0_2 a0_3 a0_4 a0_5 a0_6 l0_7 a0_8 a0_9 a0_10) = some r := H
      have A38 := Aside0.mk A380
      clear A380
      have H' := Aside0.mk H
      clear H
      have p139 : 0 ≤ (x41_1 : Int) := of_decide_eq_true (by first | (with_reducible assumption) | assumption)
      have q139 : x41_1 < (l0_7.length : Int) := of_decide_eq_true (by first | (with_reducible assumption) | assumption)
      obtain ⟨ad139, e139, hx139_0⟩ := Kd.zif HR0_7.out x41_1 p139 q139
      cases e139
      replace hx139_0 := (HB.out.cell (World.block_lt_of_cell? w _ hx139_0)).trans hx139_0
      replace p139 := eq_true p139
      replace q139 := eq_true q139
      obtain ⟨Ao39, co39, eo39⟩ := Kd.zbu HO_3.out
      subst eo39
      go_wp2_with (first | ((with_reducible refine zbe (f := 49) rfl ?_); refine zcg (some 47) rfl rfl Try.func49 (by kernel_rfl) rfl #[.slice Ao39 x3_1.length co39, .string (rdOf ByteArray.empty l0_7 x41_1)] rfl (by (try simp only [List.map_toArray, List.map_cons, List.map_nil]); first | done | rfl | (simp only [List.length_drop, List.length_take]; rfl)) ?_; (with_reducible refine (zau.calls k1 (fun k_ => some k_ = (.slice Ao39 x3_1.length co39 : Value).ownBlock) (.slice Ao39 x3_1.length co39) x3_1 (rdOf ByteArray.empty l0_7 x41_1) t140 w _ ?side1 ?side2 A38.out).mono ?_); (case side1 => repeat (first | (with_reducible first | exact HB.out | apply zad | apply zac | apply zae | refine zah ?_ GE114.out) | exact HB.out)); (case side2 => exact Kd.zct rfl HO_3.out); rintro e w40 ⟨v141, rfl, ho0, hb, hkp⟩; refine ⟨_, rfl, ?_⟩; have n0_ := Aside0.mk (zbr (by (with_reducible repeat (first | refine zag ?_ _ | refine zai ?_ | refine zaf ?_ _)); exact BK114.out) hkp (fun hs_ => (fun e_ => (Kd.R_ne HO_3.out BK114.out (by decide)) e_) hs_)); have n1_ := Aside0.mk (Kd.zbh (ok' := fun k_ => True) ho0 (fun k_ hk_ => trivial)); have n2_ := Aside0.mk (hb); clear BK114; clear HB; clear HO_3; have BK114 := n0_; have HO142 := n1_; have HB := n2_; clear n0_ n1_ n2_; (try clear hb); (try clear hkp); (try clear ho0)))
      go_roundg k1
      case measure => have := HK1.out; omega
      case rel => exact ⟨(t140), (wrap64 (x41_1 + 1)), (by first | rfl | (simp; done) | (simp [*]; done)), H', ⟨by have := HK1.out; omega⟩, ⟨by (with_reducible repeat (first | apply Kd.zbb | apply Kd.zba | apply Kd.zbf)); exact HO142.out⟩, ⟨by (with_reducible repeat (first | refine zag ?_ _ | refine zai ?_ | refine zaf ?_ _)); exact BK114.out⟩, ⟨by repeat (first | (with_reducible first | exact HB.out | apply zad | apply zac | apply zae | refine zah ?_ GE114.out) | exact HB.out)⟩⟩
     ·rw [if_neg c37] at H
      exact absurd H (by simp)
    ·rw [if_neg c36] at H
     exact absurd H (by simp)
   ·rw [if_neg c35] at H
    have c35b0 : decide (x41_1 < (l0_7.length : Int)) = false := decide_eq_false c35
    clear c35
    replace H := Option.bind_eq_some_iff.mp H
    obtain ⟨t143, A410, H⟩ := H
    replace H : ((zao.f k1 t143 a0_9).bind fun t146 => ((zao.f k1 t146 a0_10).bind fun t149 => (some t149))) = some r := H
    have A41 := Aside0.mk A410
    clear A410
    replace H := Option.bind_eq_some_iff.mp H
    obtain ⟨t146, A420, H⟩ := H
    replace H : ((zao.f k1 t146 a0_10).bind fun t149 => (some t149)) = some r := H
    have A42 := Aside0.mk A420
    clear A420
    replace H := Option.bind_eq_some_iff.mp H
    obtain ⟨t149, A430, H⟩ := H
    replace H : (some t149) = some r := H
    have A43 := Aside0.mk A430
    clear A430
    obtain rfl := Option.some.inj H
    have hcz44_0 : wr.cell? ⟨gb114, 0, none⟩ = some (.int .i64 a0_0) := (zaa BK114.out 0).trans rfl
    have hcz44_1 : wr.cell? ⟨gb114, 1, none⟩ = some (.string a0_1) := (zaa BK114.out 1).trans rfl
    have hcz44_2 : wr.cell? ⟨gb114, 2, none⟩ = some (.string a0_2) := (zaa BK114.out 2).trans rfl
    have hcz44_3 : wr.cell? ⟨gb114, 3, none⟩ = some (.string a0_3) := (zaa BK114.out 3).trans rfl
    have hcz44_4 : wr.cell? ⟨gb114, 4, none⟩ = some (.string a0_4) := (zaa BK114.out 4).trans rfl
    have hcz44_5 : wr.cell? ⟨gb114, 5, none⟩ = some (.string a0_5) := (zaa BK114.out 5).trans rfl
    have hcz44_6 : wr.cell? ⟨gb114, 6, none⟩ = some (.string a0_6) := (zaa BK114.out 6).trans rfl
    have hcz44_7 : wr.cell? ⟨gb114, 7, none⟩ = some (.slice A0_7 l0_7.length c0_7) := (zaa BK114.out 7).trans rfl
    have hcz44_8 : wr.cell? ⟨gb114, 8, none⟩ = some (.int .i64 a0_8) := (zaa BK114.out 8).trans rfl
    have hcz44_9 : wr.cell? ⟨gb114, 9, none⟩ = some (.int .i64 a0_9) := (zaa BK114.out 9).trans rfl
    have hcz44_10 : wr.cell? ⟨gb114, 10, none⟩ = some (.int .i64 a0_10) := (zaa BK114.out 10).trans rfl
    have hfz44_0 := zab BK114.out 0
    have hfz44_1 := zab BK114.out 1
    have hfz44_2 := zab BK114.out 2
    have hfz44_3 := zab BK114.out 3
    have hfz44_4 := zab BK114.out 4
    have hfz44_5 := zab BK114.out 5
    have hfz44_6 := zab BK114.out 6
    have hfz44_7 := zab BK114.out 7
    have hfz44_8 := zab BK114.out 8
    have hfz44_9 := zab BK114.out 9
    have hfz44_10 := zab BK114.out 10
    obtain ⟨Ao45, co45, eo45⟩ := Kd.zbu HO_3.out
    subst eo45
    go_wp2_with (first | ((with_reducible refine zbe (f := 48) rfl ?_); refine zcg (some 52) rfl rfl Try.func48 (by kernel_rfl) rfl #[.slice Ao45 x3_1.length co45, .int .i64 a0_8] rfl (by (try simp only [List.map_toArray, List.map_cons, List.map_nil]); first | done | rfl | (simp only [List.length_drop, List.length_take]; rfl)) ?_; (with_reducible refine (zao.calls k1 (fun k_ => some k_ = (.slice Ao45 x3_1.length co45 : Value).ownBlock) (.slice Ao45 x3_1.length co45) x3_1 a0_8 t143 w _ ?side1 ?side2 A41.out).mono ?_); (case side1 => repeat (first | (with_reducible first | exact HB.out | apply zad | apply zac | apply zae | refine zah ?_ GE114.out) | exact HB.out)); (case side2 => exact Kd.zct rfl HO_3.out); rintro e w46 ⟨v144, rfl, ho0, hb, hkp⟩; refine ⟨_, rfl, ?_⟩; have n0_ := Aside0.mk (zbr (by (with_reducible repeat (first | refine zag ?_ _ | refine zai ?_ | refine zaf ?_ _)); exact BK114.out) hkp (fun hs_ => (fun e_ => (Kd.R_ne HO_3.out BK114.out (by decide)) e_) hs_)); have n1_ := Aside0.mk (Kd.zbh (ok' := fun k_ => True) ho0 (fun k_ hk_ => trivial)); have n2_ := Aside0.mk (hb); clear BK114; clear HB; clear HO_3; have BK114 := n0_; have HO145 := n1_; have HB := n2_; clear n0_ n1_ n2_; (try clear hb); (try clear hkp); (try clear ho0); have hcz47_0 : w46.cell? ⟨gb114, 0, none⟩ = some (.int .i64 a0_0) := (zaa BK114.out 0).trans rfl; have hcz47_1 : w46.cell? ⟨gb114, 1, none⟩ = some (.string a0_1) := (zaa BK114.out 1).trans rfl; have hcz47_2 : w46.cell? ⟨gb114, 2, none⟩ = some (.string a0_2) := (zaa BK114.out 2).trans rfl; have hcz47_3 : w46.cell? ⟨gb114, 3, none⟩ = some (.string a0_3) := (zaa BK114.out 3).trans rfl; have hcz47_4 : w46.cell? ⟨gb114, 4, none⟩ = some (.string a0_4) := (zaa BK114.out 4).trans rfl; have hcz47_5 : w46.cell? ⟨gb114, 5, none⟩ = some (.string a0_5) := (zaa BK114.out 5).trans rfl; have hcz47_6 : w46.cell? ⟨gb114, 6, none⟩ = some (.string a0_6) := (zaa BK114.out 6).trans rfl; have hcz47_7 : w46.cell? ⟨gb114, 7, none⟩ = some (.slice A0_7 l0_7.length c0_7) := (zaa BK114.out 7).trans rfl; have hcz47_8 : w46.cell? ⟨gb114, 8, none⟩ = some (.int .i64 a0_8) := (zaa BK114.out 8).trans rfl; have hcz47_9 : w46.cell? ⟨gb114, 9, none⟩ = some (.int .i64 a0_9) := (zaa BK114.out 9).trans rfl; have hcz47_10 : w46.cell? ⟨gb114, 10, none⟩ = some (.int .i64 a0_10) := (zaa BK114.out 10).trans rfl; have hfz47_0 := zab BK114.out 0; have hfz47_1 := zab BK114.out 1; have hfz47_2 := zab BK114.out 2; have hfz47_3 := zab BK114.out 3; have hfz47_4 := zab BK114.out 4; have hfz47_5 := zab BK114.out 5; have hfz47_6 := zab BK114.out 6; have hfz47_7 := zab BK114.out 7; have hfz47_8 := zab BK114.out 8; have hfz47_9 := zab BK114.out 9; have hfz47_10 := zab BK114.out 10; obtain ⟨Ao48, co48, eo48⟩ := Kd.zbu HO145.out; subst eo48) | ((with_reducible refine zbe (f := 48) rfl ?_); refine zcg (some 56) rfl rfl Try.func48 (by kernel_rfl) rfl #[.slice Ao48 t143.length co48, .int .i64 a0_9] rfl (by (try simp only [List.map_toArray, List.map_cons, List.map_nil]); first | done | rfl | (simp only [List.length_drop, List.length_take]; rfl)) ?_; (with_reducible refine (zao.calls k1 (fun k_ => some k_ = (.slice Ao48 t143.length co48 : Value).ownBlock) (.slice Ao48 t143.length co48) t143 a0_9 t146 w _ ?side1 ?side2 A42.out).mono ?_); (case side1 => repeat (first | (with_reducible first | exact HB.out | apply zad | apply zac | apply zae | refine zah ?_ GE114.out) | exact HB.out)); (case side2 => exact Kd.zct rfl HO145.out); rintro e w49 ⟨v147, rfl, ho0, hb, hkp⟩; refine ⟨_, rfl, ?_⟩; have n0_ := Aside0.mk (zbr (by (with_reducible repeat (first | refine zag ?_ _ | refine zai ?_ | refine zaf ?_ _)); exact BK114.out) hkp (fun hs_ => (fun e_ => (Kd.R_ne HO145.out BK114.out (by decide)) e_) hs_)); have n1_ := Aside0.mk (Kd.zbh (ok' := fun k_ => True) ho0 (fun k_ hk_ => trivial)); have n2_ := Aside0.mk (hb); clear BK114; clear HB; clear HO145; have BK114 := n0_; have HO148 := n1_; have HB := n2_; clear n0_ n1_ n2_; (try clear hb); (try clear hkp); (try clear ho0); have hcz50_0 : w49.cell? ⟨gb114, 0, none⟩ = some (.int .i64 a0_0) := (zaa BK114.out 0).trans rfl; have hcz50_1 : w49.cell? ⟨gb114, 1, none⟩ = some (.string a0_1) := (zaa BK114.out 1).trans rfl; have hcz50_2 : w49.cell? ⟨gb114, 2, none⟩ = some (.string a0_2) := (zaa BK114.out 2).trans rfl; have hcz50_3 : w49.cell? ⟨gb114, 3, none⟩ = some (.string a0_3) := (zaa BK114.out 3).trans rfl; have hcz50_4 : w49.cell? ⟨gb114, 4, none⟩ = some (.string a0_4) := (zaa BK114.out 4).trans rfl; have hcz50_5 : w49.cell? ⟨gb114, 5, none⟩ = some (.string a0_5) := (zaa BK114.out 5).trans rfl; have hcz50_6 : w49.cell? ⟨gb114, 6, none⟩ = some (.string a0_6) := (zaa BK114.out 6).trans rfl; have hcz50_7 : w49.cell? ⟨gb114, 7, none⟩ = some (.slice A0_7 l0_7.length c0_7) := (zaa BK114.out 7).trans rfl; have hcz50_8 : w49.cell? ⟨gb114, 8, none⟩ = some (.int .i64 a0_8) := (zaa BK114.out 8).trans rfl; have hcz50_9 : w49.cell? ⟨gb114, 9, none⟩ = some (.int .i64 a0_9) := (zaa BK114.out 9).trans rfl; have hcz50_10 : w49.cell? ⟨gb114, 10, none⟩ = some (.int .i64 a0_10) := (zaa BK114.out 10).trans rfl; have hfz50_0 := zab BK114.out 0; have hfz50_1 := zab BK114.out 1; have hfz50_2 := zab BK114.out 2; have hfz50_3 := zab BK114.out 3; have hfz50_4 := zab BK114.out 4; have hfz50_5 := zab BK114.out 5; have hfz50_6 := zab BK114.out 6; have hfz50_7 := zab BK114.out 7; have hfz50_8 := zab BK114.out 8; have hfz50_9 := zab BK114.out 9; have hfz50_10 := zab BK114.out 10; obtain ⟨Ao51, co51, eo51⟩ := Kd.zbu HO148.out; subst eo51) | ((with_reducible refine zbe (f := 48) rfl ?_); refine zcg (some 60) rfl rfl Try.func48 (by kernel_rfl) rfl #[.slice Ao51 t146.length co51, .int .i64 a0_10] rfl (by (try simp only [List.map_toArray, List.map_cons, List.map_nil]); first | done | rfl | (simp only [List.length_drop, List.length_take]; rfl)) ?_; (with_reducible refine (zao.calls k1 (fun k_ => some k_ = (.slice Ao51 t146.length co51 : Value).ownBlock) (.slice Ao51 t146.length co51) t146 a0_10 t149 w _ ?side1 ?side2 A43.out).mono ?_); (case side1 => repeat (first | (with_reducible first | exact HB.out | apply zad | apply zac | apply zae | refine zah ?_ GE114.out) | exact HB.out)); (case side2 => exact Kd.zct rfl HO148.out); rintro e w52 ⟨v150, rfl, ho0, hb, hkp⟩; refine ⟨_, rfl, ?_⟩; have n0_ := Aside0.mk (zbr (by (with_reducible repeat (first | refine zag ?_ _ | refine zai ?_ | refine zaf ?_ _)); exact BK114.out) hkp (fun hs_ => (fun e_ => (Kd.R_ne HO148.out BK114.out (by decide)) e_) hs_)); have n1_ := Aside0.mk (Kd.zbh (ok' := fun k_ => True) ho0 (fun k_ hk_ => trivial)); have n2_ := Aside0.mk (hb); clear BK114; clear HB; clear HO148; have BK114 := n0_; have HO151 := n1_; have HB := n2_; clear n0_ n1_ n2_; (try clear hb); (try clear hkp); (try clear ho0)))
    go_ret
    exact ⟨_, by first | rfl | (simp [zay, zax] <;> rfl) | (simp [*, zay, zax] <;> rfl), by (with_reducible repeat (first | apply Kd.zbb | apply Kd.zba | apply Kd.zbf)); exact HO151.out, by repeat (first | (with_reducible first | exact HB.out | apply zad | apply zac | apply zae | refine zah ?_ GE114.out) | exact HB.out)⟩
end Go.Proofs.Ytjhcbggpbfejgaa.XMsgPuts
