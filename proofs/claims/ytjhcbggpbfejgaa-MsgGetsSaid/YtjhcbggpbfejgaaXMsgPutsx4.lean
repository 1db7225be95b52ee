-- written by wip/xprint.py: the kit's print with functions walked by hand
import Derived.Test.YtjhcbggpbfejgaaXMsgPutsx0
import Derived.Test.YtjhcbggpbfejgaaXMsgPutsx2
import Derived.Test.YtjhcbggpbfejgaaXMsgPutsx3
namespace Go.Proofs.Ytjhcbggpbfejgaa.XMsgPuts
open Go.RowKit Go.Proofs.zjt.zjq Go.Proofs.zjt.zjr Go.Proofs.zjt.zjs Go.Proofs.Ytjhcbggpbfejgaa.Mk
attribute [local go_sem] zes zeq zfi zfh zdy zdx zer zep   -- for this text's walks alone
set_option linter.unusedVariables false
set_option linter.unusedSimpArgs false
mutual
def zam.j0 : Nat → Bool → Int → Int → Int → Int → Int → Int → Bool → Int → Int → List (S38) → Int → Int → List Int → ByteArray → Option (List Int × Bool)
 | 0, _, _, _, _, _, _, _, _, _, _, _, _, _, _, _ => none
 | k + 1, x4, x181000, x181001, x181002, x181003, x181004, x181005, x181006, x181007, x181008, x181009, x181010, x181011, x181012, x181013 => (zal.f k (([(x181000) % 256] : List Int)) x181001).bind fun t184 => ((zal.f k t184 x181002).bind fun t187 => ((zal.f k t187 x181003).bind fun t190 => ((zal.f k t190 x181004).bind fun t193 => ((zal.f k t193 x181005).bind fun t196 => (if x181006 = true then (if t196.length < 140737488355328 then (zam.j1 k x4 (t196 ++ [1]) x181000 x181001 x181002 x181003 x181004 x181005 x181006 x181007 x181008 x181009 x181010 x181011 x181012 x181013) else (none)) else (if t196.length < 140737488355328 then (zam.j1 k x4 (t196 ++ [0]) x181000 x181001 x181002 x181003 x181004 x181005 x181006 x181007 x181008 x181009 x181010 x181011 x181012 x181013) else (none)))))))
def zam.j1 : Nat → Bool → List Int → Int → Int → Int → Int → Int → Int → Bool → Int → Int → List (S38) → Int → Int → List Int → ByteArray → Option (List Int × Bool)
 | 0, _, _, _, _, _, _, _, _, _, _, _, _, _, _, _, _ => none
 | k + 1, x4, x5, x181000, x181001, x181002, x181003, x181004, x181005, x181006, x181007, x181008, x181009, x181010, x181011, x181012, x181013 => (zal.f k x5 x181007).bind fun t205 => ((zal.f k t205 x181008).bind fun t208 => ((zal.f k t208 (x181009.length : Int)).bind fun t211 => (zam.l0 k x4 t211 x181009 (x181009.length : Int) 0 x181000 x181001 x181002 x181003 x181004 x181005 x181006 x181007 x181008 x181009 x181010 x181011 x181012 x181013)))
def zam.l0 : Nat → Bool → List Int → List (S38) → Int → Int → Int → Int → Int → Int → Int → Int → Bool → Int → Int → List (S38) → Int → Int → List Int → ByteArray → Option (List Int × Bool)
 | 0, _, _, _, _, _, _, _, _, _, _, _, _, _, _, _, _, _, _, _ => none
 | k + 1, x4, x5, x66, x67, x68, x181000, x181001, x181002, x181003, x181004, x181005, x181006, x181007, x181008, x181009, x181010, x181011, x181012, x181013 => if x68 < x67 then (if 0 ≤ x68 then (if x68 < (x66.length : Int) then ((zaq.f k ((zak x66 x68).f0) ((zak x66 x68).f1) ((zak x66 x68).f2.f0) ((zak x66 x68).f2.f1) ((zak x66 x68).f2.f2) ((zak x66 x68).f2.f3) ((zak x66 x68).f2.f4) ((zak x66 x68).f2.f5) ((zak x66 x68).f2.f6) ((zak x66 x68).f2.f7) ((zak x66 x68).f2.f8) ((zak x66 x68).f2.f9) ((zak x66 x68).f2.f10) ((zak x66 x68).f3)).bind fun bt216 => (if x4 = true then ((zal.f k x5 (bt216.1.length : Int)).bind fun t220 => (if t220.length + bt216.1.length < 140737488355328 then (zam.l0 k bt216.2 (t220 ++ bt216.1) x66 x67 (wrap64 (x68 + 1)) x181000 x181001 x181002 x181003 x181004 x181005 x181006 x181007 x181008 x181009 x181010 x181011 x181012 x181013) else (none))) else ((zal.f k x5 (bt216.1.length : Int)).bind fun t226 => (if t226.length + bt216.1.length < 140737488355328 then (zam.l0 k false (t226 ++ bt216.1) x66 x67 (wrap64 (x68 + 1)) x181000 x181001 x181002 x181003 x181004 x181005 x181006 x181007 x181008 x181009 x181010 x181011 x181012 x181013) else (none))))) else (none)) else (none)) else ((zal.f k x5 x181010).bind fun t232 => ((zal.f k t232 x181011).bind fun t235 => ((zal.f k t235 (x181012.length : Int)).bind fun t238 => (zam.l1 k x4 t238 x181012 (x181012.length : Int) 0 x181000 x181001 x181002 x181003 x181004 x181005 x181006 x181007 x181008 x181009 x181010 x181011 x181012 x181013))))
def zam.l1 : Nat → Bool → List Int → List Int → Int → Int → Int → Int → Int → Int → Int → Int → Bool → Int → Int → List (S38) → Int → Int → List Int → ByteArray → Option (List Int × Bool)
 | 0, _, _, _, _, _, _, _, _, _, _, _, _, _, _, _, _, _, _, _ => none
 | k + 1, x4, x5, x107, x108, x109, x181000, x181001, x181002, x181003, x181004, x181005, x181006, x181007, x181008, x181009, x181010, x181011, x181012, x181013 => if x109 < x108 then (if 0 ≤ x109 then (if x109 < (x107.length : Int) then ((zal.f k x5 (rd x107 x109)).bind fun t242 => (zam.l1 k x4 t242 x107 x108 (wrap64 (x109 + 1)) x181000 x181001 x181002 x181003 x181004 x181005 x181006 x181007 x181008 x181009 x181010 x181011 x181012 x181013)) else (none)) else (none)) else ((zal.f k x5 (x181013.size : Int)).bind fun t245 => (if t245.length + x181013.size < 140737488355328 then (some ((t245 ++ bytesOf x181013), x4)) else (none)))
end
def zam.f (k : Nat) (a0_0 : Int) (a0_1 : Int) (a0_2 : Int) (a0_3 : Int) (a0_4 : Int) (a0_5 : Int) (a0_6 : Bool) (a0_7 : Int) (a0_8 : Int) (l0_9 : List (S38)) (a0_10 : Int) (a0_11 : Int) (l0_12 : List Int) (a0_13 : ByteArray) : Option (List Int × Bool) := if a0_0 ≥ 1 then (zam.j0 k (decide (a0_0 ≤ 6)) a0_0 a0_1 a0_2 a0_3 a0_4 a0_5 a0_6 a0_7 a0_8 l0_9 a0_10 a0_11 l0_12 a0_13) else (zam.j0 k false a0_0 a0_1 a0_2 a0_3 a0_4 a0_5 a0_6 a0_7 a0_8 l0_9 a0_10 a0_11 l0_12 a0_13)
set_option maxHeartbeats 8000000 in
set_option maxRecDepth 100000 in
theorem zam.calls (k : Nat) (a0_0 : Int) (a0_1 : Int) (a0_2 : Int) (a0_3 : Int) (a0_4 : Int) (a0_5 : Int) (a0_6 : Bool) (a0_7 : Int) (a0_8 : Int) (A0_9 : Option Addr) (c0_9 : Nat) (l0_9 : List (S38)) (a0_10 : Int) (a0_11 : Int) (A0_12 : Option Addr) (c0_12 : Nat) (l0_12 : List Int) (a0_13 : ByteArray) (r1 : List Int) (r2 : Bool) (w : World) (hr0_9 : Kd.C k38 w A0_9 l0_9.length l0_9) (hc0_9 : l0_9.length ≤ c0_9) (hr0_12 : Kd.C (Kd.int .i64) w A0_12 l0_12.length l0_12) (hc0_12 : l0_12.length ≤ c0_12) (h : zam.f k a0_0 a0_1 a0_2 a0_3 a0_4 a0_5 a0_6 a0_7 a0_8 l0_9 a0_10 a0_11 l0_12 a0_13 = some (r1, r2)) :
  Calls Try.prog 29 #[.agg #[.int .i64 a0_0, .int .i64 a0_1, .int .i64 a0_2, .int .i64 a0_3, .int .i64 a0_4, .int .i64 a0_5, .bool a0_6, .int .i64 a0_7, .int .i64 a0_8, .slice A0_9 l0_9.length c0_9, .int .i64 a0_10, .int .i64 a0_11, .slice A0_12 l0_12.length c0_12, .string a0_13]] w fun e w' => ∃ v0_ : Value, e = .returned (.tuple #[v0_, .bool r2]) ∧ Kd.R (Kd.int .u8) 5 w' w.heap.size (fun _ => True) v0_ r1 ∧ Below w.heap.size w w' := by
 have hu66 := Try.underlying66
 have hu38 := Try.underlying38
 have HR0_9 := Aside0.mk hr0_9
 have HC0_9 := Aside0.mk hc0_9
 clear hr0_9 hc0_9
 have HR0_12 := Aside0.mk hr0_12
 have HC0_12 := Aside0.mk hc0_12
 clear hr0_12 hc0_12
 have HB := Aside0.mk (Below.refl w.heap.size w)
 have H : (if a0_0 ≥ 1 then (zam.j0 k (decide (a0_0 ≤ 6)) a0_0 a0_1 a0_2 a0_3 a0_4 a0_5 a0_6 a0_7 a0_8 l0_9 a0_10 a0_11 l0_12 a0_13) else (zam.j0 k false a0_0 a0_1 a0_2 a0_3 a0_4 a0_5 a0_6 a0_7 a0_8 l0_9 a0_10 a0_11 l0_12 a0_13)) = some (r1, r2) := h
 clear h
 have HC2 := Aside0.mk H
 clear H
 go_enter Try.func29, Try.ntmps29
 go_upto_region 1 with (first | ((with_reducible refine zcr (N := 1) rfl ?_); refine zcm ?hg (N := 1) ?hd (cs := #[.int .i64 a0_0, .int .i64 a0_1, .int .i64 a0_2, .int .i64 a0_3, .int .i64 a0_4, .int .i64 a0_5, .bool a0_6, .int .i64 a0_7, .int .i64 a0_8, .slice A0_9 l0_9.length c0_9, .int .i64 a0_10, .int .i64 a0_11, .slice A0_12 l0_12.length c0_12, .string a0_13]) (t := 66) ?hr ?_; (case hd => rfl); (case hg => rfl); (case hr => first | (go_simp; done) | (go_simp; rfl)); intro gb180 hg w3 hbox hb; have n0_ := Aside0.mk (zbl (by repeat (first | (with_reducible first | exact HB.out | apply zad | apply zac | apply zae) | exact HB.out)) hb); have n1_ := Aside0.mk (hbox); have n2_ := Aside0.mk ((by rw [hg]; exact (zaz (by repeat (first | (with_reducible first | exact HB.out | apply zad | apply zac | apply zae) | exact HB.out))) : w.heap.size ≤ gb180)); have n3_ := Aside0.mk ((by rw [hg]; exact (zaz (by repeat (first | (with_reducible first | exact HB.out | apply zad | apply zac | apply zae) | exact HB.out))) : w.heap.size ≤ gb180)); clear HB; have HB := n0_; have BK180 := n1_; have GW180 := n2_; have GE180 := n3_; clear n0_ n1_ n2_ n3_; clear hb hbox hg))
 (try simp only [Act.put, List.setIfInBounds_toArray, List.set_cons_zero, List.set_cons_succ])
 go_cut [4] (fun v4 wc => ∃ (kq : Nat) (x4_1 : Bool), v4 = .bool x4_1 ∧ Aside0 (zam.j0 kq x4_1 a0_0 a0_1 a0_2 a0_3 a0_4 a0_5 a0_6 a0_7 a0_8 l0_9 a0_10 a0_11 l0_12 a0_13 = some (r1, r2)) ∧ Aside0 (kq ≤ k) ∧ Aside0 (wc.heap[gb180]? = some (.cells #[.int .i64 a0_0, .int .i64 a0_1, .int .i64 a0_2, .int .i64 a0_3, .int .i64 a0_4, .int .i64 a0_5, .bool a0_6, .int .i64 a0_7, .int .i64 a0_8, (.slice A0_9 l0_9.length c0_9), .int .i64 a0_10, .int .i64 a0_11, (.slice A0_12 l0_12.length c0_12), .string a0_13] 66 (0, 0))) ∧ Aside0 (Below w.heap.size w wc))
 case first =>
  have H := HC2.out
  clear HC2
  by_cases c4 : a0_0 ≥ 1
  ·rw [if_pos c4] at H
   have c4b0 : decide (1 ≤ a0_0) = true := decide_eq_true c4
   clear c4
   (first | rw [c4b0] | (simp only [zbz, zcc]; rw [c4b0]) | skip)
   have H' := Aside0.mk H
   clear H
   have hcz5_0 : w3.cell? ⟨gb180, 0, none⟩ = some (.int .i64 a0_0) := (zaa BK180.out 0).trans rfl
   have hcz5_1 : w3.cell? ⟨gb180, 1, none⟩ = some (.int .i64 a0_1) := (zaa BK180.out 1).trans rfl
   have hcz5_2 : w3.cell? ⟨gb180, 2, none⟩ = some (.int .i64 a0_2) := (zaa BK180.out 2).trans rfl
   have hcz5_3 : w3.cell? ⟨gb180, 3, none⟩ = some (.int .i64 a0_3) := (zaa BK180.out 3).trans rfl
   have hcz5_4 : w3.cell? ⟨gb180, 4, none⟩ = some (.int .i64 a0_4) := (zaa BK180.out 4).trans rfl
   have hcz5_5 : w3.cell? ⟨gb180, 5, none⟩ = some (.int .i64 a0_5) := (zaa BK180.out 5).trans rfl
   have hcz5_6 : w3.cell? ⟨gb180, 6, none⟩ = some (.bool a0_6) := (zaa BK180.out 6).trans rfl
   have hcz5_7 : w3.cell? ⟨gb180, 7, none⟩ = some (.int .i64 a0_7) := (zaa BK180.out 7).trans rfl
   have hcz5_8 : w3.cell? ⟨gb180, 8, none⟩ = some (.int .i64 a0_8) := (zaa BK180.out 8).trans rfl
   have hcz5_9 : w3.cell? ⟨gb180, 9, none⟩ = some (.slice A0_9 l0_9.length c0_9) := (zaa BK180.out 9).trans rfl
   have hcz5_10 : w3.cell? ⟨gb180, 10, none⟩ = some (.int .i64 a0_10) := (zaa BK180.out 10).trans rfl
   have hcz5_11 : w3.cell? ⟨gb180, 11, none⟩ = some (.int .i64 a0_11) := (zaa BK180.out 11).trans rfl
   have hcz5_12 : w3.cell? ⟨gb180, 12, none⟩ = some (.slice A0_12 l0_12.length c0_12) := (zaa BK180.out 12).trans rfl
   have hcz5_13 : w3.cell? ⟨gb180, 13, none⟩ = some (.string a0_13) := (zaa BK180.out 13).trans rfl
   have hfz5_0 := zab BK180.out 0
   have hfz5_1 := zab BK180.out 1
   have hfz5_2 := zab BK180.out 2
   have hfz5_3 := zab BK180.out 3
   have hfz5_4 := zab BK180.out 4
   have hfz5_5 := zab BK180.out 5
   have hfz5_6 := zab BK180.out 6
   have hfz5_7 := zab BK180.out 7
   have hfz5_8 := zab BK180.out 8
   have hfz5_9 := zab BK180.out 9
   have hfz5_10 := zab BK180.out 10
   have hfz5_11 := zab BK180.out 11
   have hfz5_12 := zab BK180.out 12
   have hfz5_13 := zab BK180.out 13
   go_wp2
   go_meet
   case rel => exact ⟨_, (decide (a0_0 ≤ 6)), (by first | rfl | (simp; done) | (simp [*]; done)), H', ⟨by first | omega | exact Nat.le_refl _⟩, ⟨by (with_reducible repeat (first | refine zag ?_ _ | refine zai ?_ | refine zaf ?_ _)); exact BK180.out⟩, ⟨by repeat (first | (with_reducible first | exact HB.out | apply zad | apply zac | apply zae | refine zah ?_ GE180.out) | exact HB.out)⟩⟩
  ·rw [if_neg c4] at H
   have c4b0 : decide (1 ≤ a0_0) = false := decide_eq_false c4
   clear c4
   (first | rw [c4b0] | (simp only [zbz, zcc]; rw [c4b0]) | skip)
   have H' := Aside0.mk H
   clear H
   have hcz6_0 : w3.cell? ⟨gb180, 0, none⟩ = some (.int .i64 a0_0) := (zaa BK180.out 0).trans rfl
   have hcz6_1 : w3.cell? ⟨gb180, 1, none⟩ = some (.int .i64 a0_1) := (zaa BK180.out 1).trans rfl
   have hcz6_2 : w3.cell? ⟨gb180, 2, none⟩ = some (.int .i64 a0_2) := (zaa BK180.out 2).trans rfl
   have hcz6_3 : w3.cell? ⟨gb180, 3, none⟩ = some (.int .i64 a0_3) := (zaa BK180.out 3).trans rfl
   have hcz6_4 : w3.cell? ⟨gb180, 4, none⟩ = some (.int .i64 a0_4) := (zaa BK180.out 4).trans rfl
   have hcz6_5 : w3.cell? ⟨gb180, 5, none⟩ = some (.int .i64 a0_5) := (zaa BK180.out 5).trans rfl
   have hcz6_6 : w3.cell? ⟨gb180, 6, none⟩ = some (.bool a0_6) := (zaa BK180.out 6).trans rfl
   have hcz6_7 : w3.cell? ⟨gb180, 7, none⟩ = some (.int .i64 a0_7) := (zaa BK180.out 7).trans rfl
   have hcz6_8 : w3.cell? ⟨gb180, 8, none⟩ = some (.int .i64 a0_8) := (zaa BK180.out 8).trans rfl
   have hcz6_9 : w3.cell? ⟨gb180, 9, none⟩ = some (.slice A0_9 l0_9.length c0_9) := (zaa BK180.out 9).trans rfl
   have hcz6_10 : w3.cell? ⟨gb180, 10, none⟩ = some (.int .i64 a0_10) := (zaa BK180.out 10).trans rfl
   have hcz6_11 : w3.cell? ⟨gb180, 11, none⟩ = some (.int .i64 a0_11) := (zaa BK180.out 11).trans rfl
   have hcz6_12 : w3.cell? ⟨gb180, 12, none⟩ = some (.slice A0_12 l0_12.length c0_12) := (zaa BK180.out 12).trans rfl
   have hcz6_13 : w3.cell? ⟨gb180, 13, none⟩ = some (.string a0_13) := (zaa BK180.out 13).trans rfl
   have hfz6_0 := zab BK180.out 0
   have hfz6_1 := zab BK180.out 1
   have hfz6_2 := zab BK180.out 2
   have hfz6_3 := zab BK180.out 3
   have hfz6_4 := zab BK180.out 4
   have hfz6_5 := zab BK180.out 5
   have hfz6_6 := zab BK180.out 6
   have hfz6_7 := zab BK180.out 7
   have hfz6_8 := zab BK180.out 8
   have hfz6_9 := zab BK180.out 9
   have hfz6_10 := zab BK180.out 10
   have hfz6_11 := zab BK180.out 11
   have hfz6_12 := zab BK180.out 12
   have hfz6_13 := zab BK180.out 13
   go_wp2
   go_meet
   case rel => exact ⟨_, (false), (by first | rfl | (simp; done) | (simp [*]; done)), H', ⟨by first | omega | exact Nat.le_refl _⟩, ⟨by (with_reducible repeat (first | refine zag ?_ _ | refine zai ?_ | refine zaf ?_ _)); exact BK180.out⟩, ⟨by repeat (first | (with_reducible first | exact HB.out | apply zad | apply zac | apply zae | refine zah ?_ GE180.out) | exact HB.out)⟩⟩
 case rest =>
  clear HC2
  try clear c2
  try clear p2
  try clear c4
  try clear c4b0
  try clear hcz5_0
  try clear hcz5_1
  try clear hcz5_10
  try clear hcz5_11
  try clear hcz5_12
  try clear hcz5_13
  try clear hcz5_2
  try clear hcz5_3
  try clear hcz5_4
  try clear hcz5_5
  try clear hcz5_6
  try clear hcz5_7
  try clear hcz5_8
  try clear hcz5_9
  try clear hcz6_0
  try clear hcz6_1
  try clear hcz6_10
  try clear hcz6_11
  try clear hcz6_12
  try clear hcz6_13
  try clear hcz6_2
  try clear hcz6_3
  try clear hcz6_4
  try clear hcz6_5
  try clear hcz6_6
  try clear hcz6_7
  try clear hcz6_8
  try clear hcz6_9
  try clear hfz5_0
  try clear hfz5_1
  try clear hfz5_10
  try clear hfz5_11
  try clear hfz5_12
  try clear hfz5_13
  try clear hfz5_2
  try clear hfz5_3
  try clear hfz5_4
  try clear hfz5_5
  try clear hfz5_6
  try clear hfz5_7
  try clear hfz5_8
  try clear hfz5_9
  try clear hfz6_0
  try clear hfz6_1
  try clear hfz6_10
  try clear hfz6_11
  try clear hfz6_12
  try clear hfz6_13
  try clear hfz6_2
  try clear hfz6_3
  try clear hfz6_4
  try clear hfz6_5
  try clear hfz6_6
  try clear hfz6_7
  try clear hfz6_8
  try clear hfz6_9
  obtain ⟨kq, x4_1, rfl, HA, HJ1, BK180, HB⟩ := hcut
  cases kq with
  | zero => exact absurd HA.out (by simp [zam.j0])
  | succ kj1 =>
   have H := HA.out
   clear HA
   simp only [zam.j0] at H
   obtain ⟨y181, hy181⟩ : ∃ y_ : List Int, y_ = (([(a0_0) % 256] : List Int)) := ⟨_, rfl⟩
   replace H : ((zal.f kj1 y181 a0_1).bind fun t184 => ((zal.f kj1 t184 a0_2).bind fun t187 => ((zal.f kj1 t187 a0_3).bind fun t190 => ((zal.f kj1 t190 a0_4).bind fun t193 => ((zal.f kj1 t193 a0_5).bind fun t196 => (if a0_6 = true then (if t196.length < 140737488355328 then (zam.j1 kj1 x4_1 (t196 ++ [1]) a0_0 a0_1 a0_2 a0_3 a0_4 a0_5 a0_6 a0_7 a0_8 l0_9 a0_10 a0_11 l0_12 a0_13) else (none)) else (if t196.length < 140737488355328 then (zam.j1 kj1 x4_1 (t196 ++ [0]) a0_0 a0_1 a0_2 a0_3 a0_4 a0_5 a0_6 a0_7 a0_8 l0_9 a0_10 a0_11 l0_12 a0_13) else (none)))))))) = some (r1, r2) := by first | (rw [hy181]; with_reducible exact H) | (have H2_ := (Option.bind_some _ _).symm.trans H; rw [hy181]; with_reducible exact H2_) | (have H2_ := (Option.bind_some _ _).symm.trans H; with_reducible exact H2_) | with_reducible exact H | (rw [hy181]; exact H) | exact H
   have Ny181 := Aside0.mk hy181
   clear hy181
   replace H := Option.bind_eq_some_iff.mp H
   obtain ⟨t184, A70, H⟩ := H
   replace H : ((zal.f kj1 t184 a0_2).bind fun t187 => ((zal.f kj1 t187 a0_3).bind fun t190 => ((zal.f kj1 t190 a0_4).bind fun t193 => ((zal.f kj1 t193 a0_5).bind fun t196 => (if a0_6 = true then (if t196.length < 140737488355328 then (zam.j1 kj1 x4_1 (t196 ++ [1]) a0_0 a0_1 a0_2 a0_3 a0_4 a0_5 a0_6 a0_7 a0_8 l0_9 a0_10 a0_11 l0_12 a0_13) else (none)) else (if t196.length < 140737488355328 then (zam.j1 kj1 x4_1 (t196 ++ [0]) a0_0 a0_1 a0_2 a0_3 a0_4 a0_5 a0_6 a0_7 a0_8 l0_9 a0_10 a0_11 l0_12 a0_13) else (none))))))) = some (r1, r2) := H
   have A7 := Aside0.mk A70
   clear A70
   replace H := Option.bind_eq_some_iff.mp H
   obtain ⟨t187, A80, H⟩ := H
   replace H : ((zal.f kj1 t187 a0_3).bind fun t190 => ((zal.f kj1 t190 a0_4).bind fun t193 => ((zal.f kj1 t193 a0_5).bind fun t196 => (if a0_6 = true then (if t196.length < 140737488355328 then (zam.j1 kj1 x4_1 (t196 ++ [1]) a0_0 a0_1 a0_2 a0_3 a0_4 a0_5 a0_6 a0_7 a0_8 l0_9 a0_10 a0_11 l0_12 a0_13) else (none)) else (if t196.length < 140737488355328 then (zam.j1 kj1 x4_1 (t196 ++ [0]) a0_0 a0_1 a0_2 a0_3 a0_4 a0_5 a0_6 a0_7 a0_8 l0_9 a0_10 a0_11 l0_12 a0_13) else (none)))))) = some (r1, r2) := H
   have A8 := Aside0.mk A80
   clear A80
   replace H := Option.bind_eq_some_iff.mp H
   obtain ⟨t190, A90, H⟩ := H
   replace H : ((zal.f kj1 t190 a0_4).bind fun t193 => ((zal.f kj1 t193 a0_5).bind fun t196 => (if a0_6 = true then (if t196.length < 140737488355328 then (zam.j1 kj1 x4_1 (t196 ++ [1]) a0_0 a0_1 a0_2 a0_3 a0_4 a0_5 a0_6 a0_7 a0_8 l0_9 a0_10 a0_11 l0_12 a0_13) else (none)) else (if t196.length < 140737488355328 then (zam.j1 kj1 x4_1 (t196 ++ [0]) a0_0 a0_1 a0_2 a0_3 a0_4 a0_5 a0_6 a0_7 a0_8 l0_9 a0_10 a0_11 l0_12 a0_13) else (none))))) = some (r1, r2) := H
   have A9 := Aside0.mk A90
   clear A90
   replace H := Option.bind_eq_some_iff.mp H
   obtain ⟨t193, A100, H⟩ := H
   replace H : ((zal.f kj1 t193 a0_5).bind fun t196 => (if a0_6 = true then (if t196.length < 140737488355328 then (zam.j1 kj1 x4_1 (t196 ++ [1]) a0_0 a0_1 a0_2 a0_3 a0_4 a0_5 a0_6 a0_7 a0_8 l0_9 a0_10 a0_11 l0_12 a0_13) else (none)) else (if t196.length < 140737488355328 then (zam.j1 kj1 x4_1 (t196 ++ [0]) a0_0 a0_1 a0_2 a0_3 a0_4 a0_5 a0_6 a0_7 a0_8 l0_9 a0_10 a0_11 l0_12 a0_13) else (none)))) = some (r1, r2) := H
   have A10 := Aside0.mk A100
   clear A100
   replace H := Option.bind_eq_some_iff.mp H
   obtain ⟨t196, A110, H⟩ := H
   replace H : (if a0_6 = true then (if t196.length < 140737488355328 then (zam.j1 kj1 x4_1 (t196 ++ [1]) a0_0 a0_1 a0_2 a0_3 a0_4 a0_5 a0_6 a0_7 a0_8 l0_9 a0_10 a0_11 l0_12 a0_13) else (none)) else (if t196.length < 140737488355328 then (zam.j1 kj1 x4_1 (t196 ++ [0]) a0_0 a0_1 a0_2 a0_3 a0_4 a0_5 a0_6 a0_7 a0_8 l0_9 a0_10 a0_11 l0_12 a0_13) else (none))) = some (r1, r2) := H
   have A11 := Aside0.mk A110
   clear A110
   have HC12 := Aside0.mk H
   clear H
   have hcz13_0 : wc.cell? ⟨gb180, 0, none⟩ = some (.int .i64 a0_0) := (zaa BK180.out 0).trans rfl
   have hcz13_1 : wc.cell? ⟨gb180, 1, none⟩ = some (.int .i64 a0_1) := (zaa BK180.out 1).trans rfl
   have hcz13_2 : wc.cell? ⟨gb180, 2, none⟩ = some (.int .i64 a0_2) := (zaa BK180.out 2).trans rfl
   have hcz13_3 : wc.cell? ⟨gb180, 3, none⟩ = some (.int .i64 a0_3) := (zaa BK180.out 3).trans rfl
   have hcz13_4 : wc.cell? ⟨gb180, 4, none⟩ = some (.int .i64 a0_4) := (zaa BK180.out 4).trans rfl
   have hcz13_5 : wc.cell? ⟨gb180, 5, none⟩ = some (.int .i64 a0_5) := (zaa BK180.out 5).trans rfl
   have hcz13_6 : wc.cell? ⟨gb180, 6, none⟩ = some (.bool a0_6) := (zaa BK180.out 6).trans rfl
   have hcz13_7 : wc.cell? ⟨gb180, 7, none⟩ = some (.int .i64 a0_7) := (zaa BK180.out 7).trans rfl
   have hcz13_8 : wc.cell? ⟨gb180, 8, none⟩ = some (.int .i64 a0_8) := (zaa BK180.out 8).trans rfl
   have hcz13_9 : wc.cell? ⟨gb180, 9, none⟩ = some (.slice A0_9 l0_9.length c0_9) := (zaa BK180.out 9).trans rfl
   have hcz13_10 : wc.cell? ⟨gb180, 10, none⟩ = some (.int .i64 a0_10) := (zaa BK180.out 10).trans rfl
   have hcz13_11 : wc.cell? ⟨gb180, 11, none⟩ = some (.int .i64 a0_11) := (zaa BK180.out 11).trans rfl
   have hcz13_12 : wc.cell? ⟨gb180, 12, none⟩ = some (.slice A0_12 l0_12.length c0_12) := (zaa BK180.out 12).trans rfl
   have hcz13_13 : wc.cell? ⟨gb180, 13, none⟩ = some (.string a0_13) := (zaa BK180.out 13).trans rfl
   have hfz13_0 := zab BK180.out 0
   have hfz13_1 := zab BK180.out 1
   have hfz13_2 := zab BK180.out 2
   have hfz13_3 := zab BK180.out 3
   have hfz13_4 := zab BK180.out 4
   have hfz13_5 := zab BK180.out 5
   have hfz13_6 := zab BK180.out 6
   have hfz13_7 := zab BK180.out 7
   have hfz13_8 := zab BK180.out 8
   have hfz13_9 := zab BK180.out 9
   have hfz13_10 := zab BK180.out 10
   have hfz13_11 := zab BK180.out 11
   have hfz13_12 := zab BK180.out 12
   have hfz13_13 := zab BK180.out 13
   go_upto_if 45 with (first | ((with_reducible refine zcr (N := 23) rfl ?_); refine Kd.R_lit (Kd.int .u8) _ 5 ?hg (N := 23) ?hd (xs := ([(a0_0) % 256] : List Int)) (inner := [.int .u8 ((a0_0) % 256)]) (ok := fun _ => True) (okp := fun _ => True) ?hr ?hp (fun _ hk => hk) trivial (Below.refl _ _) (Nat.le_refl _) (by simp) ?_; (case hd => rfl); (case hg => rfl); (case hr => first | (go_simp; done) | (go_simp; rfl)); (case hp => exact (Reps.one (show Kd.M (Kd.int .u8) _ _ _ ((a0_0) % 256) [.int .u8 ((a0_0) % 256)] from rfl) (Reps.none _ _))); intro v182 w14 ho15 hb hg_ hnew_; clear hg_ hnew_; (first | rw [← Ny181.out] at ho15 | (simp only [Int.reduceToNat] at ho15; rw [← Ny181.out] at ho15)); have n0_ := Aside0.mk (Kd.zdn ho15 (zaz (by repeat (first | (with_reducible first | exact HB.out | apply zad | apply zac | apply zae | refine zah ?_ GE180.out) | exact HB.out)))); have n1_ := Aside0.mk (zbn (g := gb180) (o := .cells #[.int .i64 a0_0, .int .i64 a0_1, .int .i64 a0_2, .int .i64 a0_3, .int .i64 a0_4, .int .i64 a0_5, .bool a0_6, .int .i64 a0_7, .int .i64 a0_8, .slice A0_9 l0_9.length c0_9, .int .i64 a0_10, .int .i64 a0_11, .slice A0_12 l0_12.length c0_12, .string a0_13] 66 (0, 0)) (by (with_reducible repeat (first | refine zag ?_ _ | refine zai ?_ | refine zaf ?_ _)); exact BK180.out) hb); have n2_ := Aside0.mk (zbl (by repeat (first | (with_reducible first | exact HB.out | apply zad | apply zac | apply zae | refine zah ?_ GE180.out) | exact HB.out)) hb); clear BK180; clear HB; have HO183 := n0_; have BK180 := n1_; have HB := n2_; clear n0_ n1_ n2_; clear hb ho15; have hcz16_0 : w14.cell? ⟨gb180, 0, none⟩ = some (.int .i64 a0_0) := (zaa BK180.out 0).trans rfl; have hcz16_1 : w14.cell? ⟨gb180, 1, none⟩ = some (.int .i64 a0_1) := (zaa BK180.out 1).trans rfl; have hcz16_2 : w14.cell? ⟨gb180, 2, none⟩ = some (.int .i64 a0_2) := (zaa BK180.out 2).trans rfl; have hcz16_3 : w14.cell? ⟨gb180, 3, none⟩ = some (.int .i64 a0_3) := (zaa BK180.out 3).trans rfl; have hcz16_4 : w14.cell? ⟨gb180, 4, none⟩ = some (.int .i64 a0_4) := (zaa BK180.out 4).trans rfl; have hcz16_5 : w14.cell? ⟨gb180, 5, none⟩ = some (.int .i64 a0_5) := (zaa BK180.out 5).trans rfl; have hcz16_6 : w14.cell? ⟨gb180, 6, none⟩ = some (.bool a0_6) := (zaa BK180.out 6).trans rfl; have hcz16_7 : w14.cell? ⟨gb180, 7, none⟩ = some (.int .i64 a0_7) := (zaa BK180.out 7).trans rfl; have hcz16_8 : w14.cell? ⟨gb180, 8, none⟩ = some (.int .i64 a0_8) := (zaa BK180.out 8).trans rfl; have hcz16_9 : w14.cell? ⟨gb180, 9, none⟩ = some (.slice A0_9 l0_9.length c0_9) := (zaa BK180.out 9).trans rfl; have hcz16_10 : w14.cell? ⟨gb180, 10, none⟩ = some (.int .i64 a0_10) := (zaa BK180.out 10).trans rfl; have hcz16_11 : w14.cell? ⟨gb180, 11, none⟩ = some (.int .i64 a0_11) := (zaa BK180.out 11).trans rfl; have hcz16_12 : w14.cell? ⟨gb180, 12, none⟩ = some (.slice A0_12 l0_12.length c0_12) := (zaa BK180.out 12).trans rfl; have hcz16_13 : w14.cell? ⟨gb180, 13, none⟩ = some (.string a0_13) := (zaa BK180.out 13).trans rfl; have hfz16_0 := zab BK180.out 0; have hfz16_1 := zab BK180.out 1; have hfz16_2 := zab BK180.out 2; have hfz16_3 := zab BK180.out 3; have hfz16_4 := zab BK180.out 4; have hfz16_5 := zab BK180.out 5; have hfz16_6 := zab BK180.out 6; have hfz16_7 := zab BK180.out 7; have hfz16_8 := zab BK180.out 8; have hfz16_9 := zab BK180.out 9; have hfz16_10 := zab BK180.out 10; have hfz16_11 := zab BK180.out 11; have hfz16_12 := zab BK180.out 12; have hfz16_13 := zab BK180.out 13; obtain ⟨Ao17, co17, eo17⟩ := Kd.zbu HO183.out; subst eo17) | ((with_reducible refine zbe (f := 55) rfl ?_); refine zcg (some 27) rfl rfl Try.func55 (by kernel_rfl) rfl #[.slice Ao17 y181.length co17, .int .i64 a0_1] rfl (by (try simp only [List.map_toArray, List.map_cons, List.map_nil]); first | done | rfl | (simp only [List.length_drop, List.length_take]; rfl)) ?_; (with_reducible refine (zal.calls kj1 (fun k_ => some k_ = (.slice Ao17 y181.length co17 : Value).ownBlock) (.slice Ao17 y181.length co17) y181 a0_1 t184 w _ ?side1 ?side2 A7.out).mono ?_); (case side1 => repeat (first | (with_reducible first | exact HB.out | apply zad | apply zac | apply zae | refine zah ?_ GE180.out) | exact HB.out)); (case side2 => exact Kd.zct rfl HO183.out); rintro e w18 ⟨v185, rfl, ho0, hb, hkp⟩; refine ⟨_, rfl, ?_⟩; have n0_ := Aside0.mk (zbr (by (with_reducible repeat (first | refine zag ?_ _ | refine zai ?_ | refine zaf ?_ _)); exact BK180.out) hkp (fun hs_ => (fun e_ => (Kd.R_ne HO183.out BK180.out (by decide)) e_) hs_)); have n1_ := Aside0.mk (Kd.zbh (ok' := fun k_ => True) ho0 (fun k_ hk_ => trivial)); have n2_ := Aside0.mk (hb); clear BK180; clear HB; clear HO183; have BK180 := n0_; have HO186 := n1_; have HB := n2_; clear n0_ n1_ n2_; (try clear hb); (try clear hkp); (try clear ho0); have hcz19_0 : w18.cell? ⟨gb180, 0, none⟩ = some (.int .i64 a0_0) := (zaa BK180.out 0).trans rfl; have hcz19_1 : w18.cell? ⟨gb180, 1, none⟩ = some (.int .i64 a0_1) := (zaa BK180.out 1).trans rfl; have hcz19_2 : w18.cell? ⟨gb180, 2, none⟩ = some (.int .i64 a0_2) := (zaa BK180.out 2).trans rfl; have hcz19_3 : w18.cell? ⟨gb180, 3, none⟩ = some (.int .i64 a0_3) := (zaa BK180.out 3).trans rfl; have hcz19_4 : w18.cell? ⟨gb180, 4, none⟩ = some (.int .i64 a0_4) := (zaa BK180.out 4).trans rfl; have hcz19_5 : w18.cell? ⟨gb180, 5, none⟩ = some (.int .i64 a0_5) := (zaa BK180.out 5).trans rfl; have hcz19_6 : w18.cell? ⟨gb180, 6, none⟩ = some (.bool a0_6) := (zaa BK180.out 6).trans rfl; have hcz19_7 : w18.cell? ⟨gb180, 7, none⟩ = some (.int .i64 a0_7) := (zaa BK180.out 7).trans rfl; have hcz19_8 : w18.cell? ⟨gb180, 8, none⟩ = some (.int .i64 a0_8) := (zaa BK180.out 8).trans rfl; have hcz19_9 : w18.cell? ⟨gb180, 9, none⟩ = some (.slice A0_9 l0_9.length c0_9) := (zaa BK180.out 9).trans rfl; have hcz19_10 : w18.cell? ⟨gb180, 10, none⟩ = some (.int .i64 a0_10) := (zaa BK180.out 10).trans rfl; have hcz19_11 : w18.cell? ⟨gb180, 11, none⟩ = some (.int .i64 a0_11) := (zaa BK180.out 11).trans rfl; have hcz19_12 : w18.cell? ⟨gb180, 12, none⟩ = some (.slice A0_12 l0_12.length c0_12) := (zaa BK180.out 12).trans rfl; have hcz19_13 : w18.cell? ⟨gb180, 13, none⟩ = some (.string a0_13) := (zaa BK180.out 13).trans rfl; have hfz19_0 := zab BK180.out 0; have hfz19_1 := zab BK180.out 1; have hfz19_2 := zab BK180.out 2; have hfz19_3 := zab BK180.out 3; have hfz19_4 := zab BK180.out 4; have hfz19_5 := zab BK180.out 5; have hfz19_6 := zab BK180.out 6; have hfz19_7 := zab BK180.out 7; have hfz19_8 := zab BK180.out 8; have hfz19_9 := zab BK180.out 9; have hfz19_10 := zab BK180.out 10; have hfz19_11 := zab BK180.out 11; have hfz19_12 := zab BK180.out 12; have hfz19_13 := zab BK180.out 13; obtain ⟨Ao20, co20, eo20⟩ := Kd.zbu HO186.out; subst eo20) | ((with_reducible refine zbe (f := 55) rfl ?_); refine zcg (some 31) rfl rfl Try.func55 (by kernel_rfl) rfl #[.slice Ao20 t184.length co20, .int .i64 a0_2] rfl (by (try simp only [List.map_toArray, List.map_cons, List.map_nil]); first | done | rfl | (simp only [List.length_drop, List.length_take]; rfl)) ?_; (with_reducible refine (zal.calls kj1 (fun k_ => some k_ = (.slice Ao20 t184.length co20 : Value).ownBlock) (.slice Ao20 t184.length co20) t184 a0_2 t187 w _ ?side1 ?side2 A8.out).mono ?_); (case side1 => repeat (first | (with_reducible first | exact HB.out | apply zad | apply zac | apply zae | refine zah ?_ GE180.out) | exact HB.out)); (case side2 => exact Kd.zct rfl HO186.out); rintro e w21 ⟨v188, rfl, ho0, hb, hkp⟩; refine ⟨_, rfl, ?_⟩; have n0_ := Aside0.mk (zbr (by (with_reducible repeat (first | refine zag ?_ _ | refine zai ?_ | refine zaf ?_ _)); exact BK180.out) hkp (fun hs_ => (fun e_ => (Kd.R_ne HO186.out BK180.out (by decide)) e_) hs_)); have n1_ := Aside0.mk (Kd.zbh (ok' := fun k_ => True) ho0 (fun k_ hk_ => trivial)); have n2_ := Aside0.mk (hb); clear BK180; clear HB; clear HO186; have BK180 := n0_; have HO189 := n1_; have HB := n2_; clear n0_ n1_ n2_; (try clear hb); (try clear hkp); (try clear ho0); have hcz22_0 : w21.cell? ⟨gb180, 0, none⟩ = some (.int .i64 a0_0) := (zaa BK180.out 0).trans rfl; have hcz22_1 : w21.cell? ⟨gb180, 1, none⟩ = some (.int .i64 a0_1) := (zaa BK180.out 1).trans rfl; have hcz22_2 : w21.cell? ⟨gb180, 2, none⟩ = some (.int .i64 a0_2) := (zaa BK180.out 2).trans rfl; have hcz22_3 : w21.cell? ⟨gb180, 3, none⟩ = some (.int .i64 a0_3) := (zaa BK180.out 3).trans rfl; have hcz22_4 : w21.cell? ⟨gb180, 4, none⟩ = some (.int .i64 a0_4) := (zaa BK180.out 4).trans rfl; have hcz22_5 : w21.cell? ⟨gb180, 5, none⟩ = some (.int .i64 a0_5) := (zaa BK180.out 5).trans rfl; have hcz22_6 : w21.cell? ⟨gb180, 6, none⟩ = some (.bool a0_6) := (zaa BK180.out 6).trans rfl; have hcz22_7 : w21.cell? ⟨gb180, 7, none⟩ = some (.int .i64 a0_7) := (zaa BK180.out 7).trans rfl; have hcz22_8 : w21.cell? ⟨gb180, 8, none⟩ = some (.int .i64 a0_8) := (zaa BK180.out 8).trans rfl; have hcz22_9 : w21.cell? ⟨gb180, 9, none⟩ = some (.slice A0_9 l0_9.length c0_9) := (zaa BK180.out 9).trans rfl; have hcz22_10 : w21.cell? ⟨gb180, 10, none⟩ = some (.int .i64 a0_10) := (zaa BK180.out 10).trans rfl; have hcz22_11 : w21.cell? ⟨gb180, 11, none⟩ = some (.int .i64 a0_11) := (zaa BK180.out 11).trans rfl; have hcz22_12 : w21.cell? ⟨gb180, 12, none⟩ = some (.slice A0_12 l0_12.length c0_12) := (zaa BK180.out 12).trans rfl; have hcz22_13 : w21.cell? ⟨gb180, 13, none⟩ = some (.string a0_13) := (zaa BK180.out 13).trans rfl; have hfz22_0 := zab BK180.out 0; have hfz22_1 := zab BK180.out 1; have hfz22_2 := zab BK180.out 2; have hfz22_3 := zab BK180.out 3; have hfz22_4 := zab BK180.out 4; have hfz22_5 := zab BK180.out 5; have hfz22_6 := zab BK180.out 6; have hfz22_7 := zab BK180.out 7; have hfz22_8 := zab BK180.out 8; have hfz22_9 := zab BK180.out 9; have hfz22_10 := zab BK180.out 10; have hfz22_11 := zab BK180.out 11; have hfz22_12 := zab BK180.out 12; have hfz22_13 := zab BK180.out 13; obtain ⟨Ao23, co23, eo23⟩ := Kd.zbu HO189.out; subst eo23) | ((with_reducible refine zbe (f := 55) rfl ?_); refine zcg (some 35) rfl rfl Try.func55 (by kernel_rfl) rfl #[.slice Ao23 t187.length co23, .int .i64 a0_3] rfl (by (try simp only [List.map_toArray, List.map_cons, List.map_nil]); first | done | rfl | (simp only [List.length_drop, List.length_take]; rfl)) ?_; (with_reducible refine (zal.calls kj1 (fun k_ => some k_ = (.slice Ao23 t187.length co23 : Value).ownBlock) (.slice Ao23 t187.length co23) t187 a0_3 t190 w _ ?side1 ?side2 A9.out).mono ?_); (case side1 => repeat (first | (with_reducible first | exact HB.out | apply zad | apply zac | apply zae | refine zah ?_ GE180.out) | exact HB.out)); (case side2 => exact Kd.zct rfl HO189.out); rintro e w24 ⟨v191, rfl, ho0, hb, hkp⟩; refine ⟨_, rfl, ?_⟩; have n0_ := Aside0.mk (zbr (by (with_reducible repeat (first | refine zag ?_ _ | refine zai ?_ | refine zaf ?_ _)); exact BK180.out) hkp (fun hs_ => (fun e_ => (Kd.R_ne HO189.out BK180.out (by decide)) e_) hs_)); have n1_ := Aside0.mk (Kd.zbh (ok' := fun k_ => True) ho0 (fun k_ hk_ => trivial)); have n2_ := Aside0.mk (hb); clear BK180; clear HB; clear HO189; have BK180 := n0_; have HO192 := n1_; have HB := n2_; clear n0_ n1_ n2_; (try clear hb); (try clear hkp); (try clear ho0); have hcz25_0 : w24.cell? ⟨gb180, 0, none⟩ = some (.int .i64 a0_0) := (zaa BK180.out 0).trans rfl; have hcz25_1 : w24.cell? ⟨gb180, 1, none⟩ = some (.int .i64 a0_1) := (zaa BK180.out 1).trans rfl; have hcz25_2 : w24.cell? ⟨gb180, 2, none⟩ = some (.int .i64 a0_2) := (zaa BK180.out 2).trans rfl; have hcz25_3 : w24.cell? ⟨gb180, 3, none⟩ = some (.int .i64 a0_3) := (zaa BK180.out 3).trans rfl; have hcz25_4 : w24.cell? ⟨gb180, 4, none⟩ = some (.int .i64 a0_4) := (zaa BK180.out 4).trans rfl; have hcz25_5 : w24.cell? ⟨gb180, 5, none⟩ = some (.int .i64 a0_5) := (zaa BK180.out 5).trans rfl; have hcz25_6 : w24.cell? ⟨gb180, 6, none⟩ = some (.bool a0_6) := (zaa BK180.out 6).trans rfl; have hcz25_7 : w24.cell? ⟨gb180, 7, none⟩ = some (.int .i64 a0_7) := (zaa BK180.out 7).trans rfl; have hcz25_8 : w24.cell? ⟨gb180, 8, none⟩ = some (.int .i64 a0_8) := (zaa BK180.out 8).trans rfl; have hcz25_9 : w24.cell? ⟨gb180, 9, none⟩ = some (.slice A0_9 l0_9.length c0_9) := (zaa BK180.out 9).trans rfl; have hcz25_10 : w24.cell? ⟨gb180, 10, none⟩ = some (.int .i64 a0_10) := (zaa BK180.out 10).trans rfl; have hcz25_11 : w24.cell? ⟨gb180, 11, none⟩ = some (.int .i64 a0_11) := (zaa BK180.out 11).trans rfl; have hcz25_12 : w24.cell? ⟨gb180, 12, none⟩ = some (.slice A0_12 l0_12.length c0_12) := (zaa BK180.out 12).trans rfl; have hcz25_13 : w24.cell? ⟨gb180, 13, none⟩ = some (.string a0_13) := (zaa BK180.out 13).trans rfl; have hfz25_0 := zab BK180.out 0; have hfz25_1 := zab BK180.out 1; have hfz25_2 := zab BK180.out 2; have hfz25_3 := zab BK180.out 3; have hfz25_4 := zab BK180.out 4; have hfz25_5 := zab BK180.out 5; have hfz25_6 := zab BK180.out 6; have hfz25_7 := zab BK180.out 7; have hfz25_8 := zab BK180.out 8; have hfz25_9 := zab BK180.out 9; have hfz25_10 := zab BK180.out 10; have hfz25_11 := zab BK180.out 11; have hfz25_12 := zab BK180.out 12; have hfz25_13 := zab BK180.out 13; obtain ⟨Ao26, co26, eo26⟩ := Kd.zbu HO192.out; subst eo26) | ((with_reducible refine zbe (f := 55) rfl ?_); refine zcg (some 39) rfl rfl Try.func55 (by kernel_rfl) rfl #[.slice Ao26 t190.length co26, .int .i64 a0_4] rfl (by (try simp only [List.map_toArray, List.map_cons, List.map_nil]); first | done | rfl | (simp only [List.length_drop, List.length_take]; rfl)) ?_; (with_reducible refine (zal.calls kj1 (fun k_ => some k_ = (.slice Ao26 t190.length co26 : Value).ownBlock) (.slice Ao26 t190.length co26) t190 a0_4 t193 w _ ?side1 ?side2 A10.out).mono ?_); (case side1 => repeat (first | (with_reducible first | exact HB.out | apply zad | apply zac | apply zae | refine zah ?_ GE180.out) | exact HB.out)); (case side2 => exact Kd.zct rfl HO192.out); rintro e w27 ⟨v194, rfl, ho0, hb, hkp⟩; refine ⟨_, rfl, ?_⟩; have n0_ := Aside0.mk (zbr (by (with_reducible repeat (first | refine zag ?_ _ | refine zai ?_ | refine zaf ?_ _)); exact BK180.out) hkp (fun hs_ => (fun e_ => (Kd.R_ne HO192.out BK180.out (by decide)) e_) hs_)); have n1_ := Aside0.mk (Kd.zbh (ok' := fun k_ => True) ho0 (fun k_ hk_ => trivial)); have n2_ := Aside0.mk (hb); clear BK180; clear HB; clear HO192; have BK180 := n0_; have HO195 := n1_; have HB := n2_; clear n0_ n1_ n2_; (try clear hb); (try clear hkp); (try clear ho0); have hcz28_0 : w27.cell? ⟨gb180, 0, none⟩ = some (.int .i64 a0_0) := (zaa BK180.out 0).trans rfl; have hcz28_1 : w27.cell? ⟨gb180, 1, none⟩ = some (.int .i64 a0_1) := (zaa BK180.out 1).trans rfl; have hcz28_2 : w27.cell? ⟨gb180, 2, none⟩ = some (.int .i64 a0_2) := (zaa BK180.out 2).trans rfl; have hcz28_3 : w27.cell? ⟨gb180, 3, none⟩ = some (.int .i64 a0_3) := (zaa BK180.out 3).trans rfl; have hcz28_4 : w27.cell? ⟨gb180, 4, none⟩ = some (.int .i64 a0_4) := (zaa BK180.out 4).trans rfl; have hcz28_5 : w27.cell? ⟨gb180, 5, none⟩ = some (.int .i64 a0_5) := (zaa BK180.out 5).trans rfl; have hcz28_6 : w27.cell? ⟨gb180, 6, none⟩ = some (.bool a0_6) := (zaa BK180.out 6).trans rfl; have hcz28_7 : w27.cell? ⟨gb180, 7, none⟩ = some (.int .i64 a0_7) := (zaa BK180.out 7).trans rfl; have hcz28_8 : w27.cell? ⟨gb180, 8, none⟩ = some (.int .i64 a0_8) := (zaa BK180.out 8).trans rfl; have hcz28_9 : w27.cell? ⟨gb180, 9, none⟩ = some (.slice A0_9 l0_9.length c0_9) := (zaa BK180.out 9).trans rfl; have hcz28_10 : w27.cell? ⟨gb180, 10, none⟩ = some (.int .i64 a0_10) := (zaa BK180.out 10).trans rfl; have hcz28_11 : w27.cell? ⟨gb180, 11, none⟩ = some (.int .i64 a0_11) := (zaa BK180.out 11).trans rfl; have hcz28_12 : w27.cell? ⟨gb180, 12, none⟩ = some (.slice A0_12 l0_12.length c0_12) := (zaa BK180.out 12).trans rfl; have hcz28_13 : w27.cell? ⟨gb180, 13, none⟩ = some (.string a0_13) := (zaa BK180.out 13).trans rfl; have hfz28_0 := zab BK180.out 0; have hfz28_1 := zab BK180.out 1; have hfz28_2 := zab BK180.out 2; have hfz28_3 := zab BK180.out 3; have hfz28_4 := zab BK180.out 4; have hfz28_5 := zab BK180.out 5; have hfz28_6 := zab BK180.out 6; have hfz28_7 := zab BK180.out 7; have hfz28_8 := zab BK180.out 8; have hfz28_9 := zab BK180.out 9; have hfz28_10 := zab BK180.out 10; have hfz28_11 := zab BK180.out 11; have hfz28_12 := zab BK180.out 12; have hfz28_13 := zab BK180.out 13; obtain ⟨Ao29, co29, eo29⟩ := Kd.zbu HO195.out; subst eo29) | ((with_reducible refine zbe (f := 55) rfl ?_); refine zcg (some 43) rfl rfl Try.func55 (by kernel_rfl) rfl #[.slice Ao29 t193.length co29, .int .i64 a0_5] rfl (by (try simp only [List.map_toArray, List.map_cons, List.map_nil]); first | done | rfl | (simp only [List.length_drop, List.length_take]; rfl)) ?_; (with_reducible refine (zal.calls kj1 (fun k_ => some k_ = (.slice Ao29 t193.length co29 : Value).ownBlock) (.slice Ao29 t193.length co29) t193 a0_5 t196 w _ ?side1 ?side2 A11.out).mono ?_); (case side1 => repeat (first | (with_reducible first | exact HB.out | apply zad | apply zac | apply zae | refine zah ?_ GE180.out) | exact HB.out)); (case side2 => exact Kd.zct rfl HO195.out); rintro e w30 ⟨v197, rfl, ho0, hb, hkp⟩; refine ⟨_, rfl, ?_⟩; have n0_ := Aside0.mk (zbr (by (with_reducible repeat (first | refine zag ?_ _ | refine zai ?_ | refine zaf ?_ _)); exact BK180.out) hkp (fun hs_ => (fun e_ => (Kd.R_ne HO195.out BK180.out (by decide)) e_) hs_)); have n1_ := Aside0.mk (Kd.zbh (ok' := fun k_ => True) ho0 (fun k_ hk_ => trivial)); have n2_ := Aside0.mk (hb); clear BK180; clear HB; clear HO195; have BK180 := n0_; have HO198 := n1_; have HB := n2_; clear n0_ n1_ n2_; (try clear hb); (try clear hkp); (try clear ho0); have hcz31_0 : w30.cell? ⟨gb180, 0, none⟩ = some (.int .i64 a0_0) := (zaa BK180.out 0).trans rfl; have hcz31_1 : w30.cell? ⟨gb180, 1, none⟩ = some (.int .i64 a0_1) := (zaa BK180.out 1).trans rfl; have hcz31_2 : w30.cell? ⟨gb180, 2, none⟩ = some (.int .i64 a0_2) := (zaa BK180.out 2).trans rfl; have hcz31_3 : w30.cell? ⟨gb180, 3, none⟩ = some (.int .i64 a0_3) := (zaa BK180.out 3).trans rfl; have hcz31_4 : w30.cell? ⟨gb180, 4, none⟩ = some (.int .i64 a0_4) := (zaa BK180.out 4).trans rfl; have hcz31_5 : w30.cell? ⟨gb180, 5, none⟩ = some (.int .i64 a0_5) := (zaa BK180.out 5).trans rfl; have hcz31_6 : w30.cell? ⟨gb180, 6, none⟩ = some (.bool a0_6) := (zaa BK180.out 6).trans rfl; have hcz31_7 : w30.cell? ⟨gb180, 7, none⟩ = some (.int .i64 a0_7) := (zaa BK180.out 7).trans rfl; have hcz31_8 : w30.cell? ⟨gb180, 8, none⟩ = some (.int .i64 a0_8) := (zaa BK180.out 8).trans rfl; have hcz31_9 : w30.cell? ⟨gb180, 9, none⟩ = some (.slice A0_9 l0_9.length c0_9) := (zaa BK180.out 9).trans rfl; have hcz31_10 : w30.cell? ⟨gb180, 10, none⟩ = some (.int .i64 a0_10) := (zaa BK180.out 10).trans rfl; have hcz31_11 : w30.cell? ⟨gb180, 11, none⟩ = some (.int .i64 a0_11) := (zaa BK180.out 11).trans rfl; have hcz31_12 : w30.cell? ⟨gb180, 12, none⟩ = some (.slice A0_12 l0_12.length c0_12) := (zaa BK180.out 12).trans rfl; have hcz31_13 : w30.cell? ⟨gb180, 13, none⟩ = some (.string a0_13) := (zaa BK180.out 13).trans rfl; have hfz31_0 := zab BK180.out 0; have hfz31_1 := zab BK180.out 1; have hfz31_2 := zab BK180.out 2; have hfz31_3 := zab BK180.out 3; have hfz31_4 := zab BK180.out 4; have hfz31_5 := zab BK180.out 5; have hfz31_6 := zab BK180.out 6; have hfz31_7 := zab BK180.out 7; have hfz31_8 := zab BK180.out 8; have hfz31_9 := zab BK180.out 9; have hfz31_10 := zab BK180.out 10; have hfz31_11 := zab BK180.out 11; have hfz31_12 := zab BK180.out 12; have hfz31_13 := zab BK180.out 13))
   (try simp only [Act.put, List.setIfInBounds_toArray, List.set_cons_zero, List.set_cons_succ])
   go_cut [5] (fun v5 wc => ∃ (kq : Nat) (x5_11 : List Int), Aside0 (zam.j1 kq x4_1 x5_11 a0_0 a0_1 a0_2 a0_3 a0_4 a0_5 a0_6 a0_7 a0_8 l0_9 a0_10 a0_11 l0_12 a0_13 = some (r1, r2)) ∧ Aside0 (kq ≤ kj1) ∧ Aside0 (Kd.R (Kd.int .u8) 5 wc w.heap.size (fun _ => True) v5 x5_11) ∧ Aside0 (wc.heap[gb180]? = some (.cells #[.int .i64 a0_0, .int .i64 a0_1, .int .i64 a0_2, .int .i64 a0_3, .int .i64 a0_4, .int .i64 a0_5, .bool a0_6, .int .i64 a0_7, .int .i64 a0_8, (.slice A0_9 l0_9.length c0_9), .int .i64 a0_10, .int .i64 a0_11, (.slice A0_12 l0_12.length c0_12), .string a0_13] 66 (0, 0))) ∧ Aside0 (Below w.heap.size w wc))
   case first =>
    have H := HC12.out
    clear HC12
    by_cases c32 : a0_6 = true
    ·subst c32
     have H1 : (if t196.length < 140737488355328 then (zam.j1 kj1 x4_1 (t196 ++ [1]) a0_0 a0_1 a0_2 a0_3 a0_4 a0_5 true a0_7 a0_8 l0_9 a0_10 a0_11 l0_12 a0_13) else (none)) = some (r1, r2) := by rw [if_pos rfl] at H; exact H
     clear H
     have H := H1
     clear H1
     by_cases c33 : t196.length < 140737488355328
     ·rw [if_pos c33] at H
      have LMc33 := Aside0.mk c33
      clear c33
      obtain ⟨y199, hy199⟩ : ∃ y_ : List Int, y_ = (t196 ++ [1]) := ⟨_, rfl⟩
      replace H : (zam.j1 kj1 x4_1 y199 a0_0 a0_1 a0_2 a0_3 a0_4 a0_5 true a0_7 a0_8 l0_9 a0_10 a0_11 l0_12 a0_13) = some (r1, r2) := by first | (rw [hy199]; with_reducible exact H) | (have H2_ := (Option.bind_some _ _).symm.trans H; rw [hy199]; with_reducible exact H2_) | (have H2_ := (Option.bind_some _ _).symm.trans H; with_reducible exact H2_) | with_reducible exact H | (rw [hy199]; exact H) | exact H
      have Ny199 := Aside0.mk hy199
      clear hy199
      have H' := Aside0.mk H
      clear H
      go_wp2_with (first | ((with_reducible refine zcd (b := .append) (xs := #[.tmp 46, .tmp 47]) rfl ?_); at_builtin; refine Kd.zdd (Kd.int .u8) (w0 := w) w.heap.size rfl (.tmp 46) (.tmp 47) 27 5 (.int .u8 0) 1 rfl Try.underlying27 info5 rfl (by decide) (by omega) v197 t196 1 [.int .u8 1] (fun _ => True) (fun _ => False) rfl rfl ?aP (fun _ hk => hk.elim) ?aF ?aO ?aB ?aS ?aL ?_; (case aP => exact rfl); (case aB => exact (by repeat (first | (with_reducible first | exact HB.out | apply zad | apply zac | apply zae | refine zah ?_ GE180.out) | exact HB.out))); (case aF => exact (fun _ _ => trivial)); (case aO => exact (by (with_reducible repeat (first | apply Kd.zbb | apply Kd.zba | apply Kd.zbf)); exact HO198.out)); (case aS => exact (zaz (by repeat (first | (with_reducible first | exact HB.out | apply zad | apply zac | apply zae | refine zah ?_ GE180.out) | exact HB.out)))); (case aL => have := LMc33.out; omega); intro v200 w34 ho hb hg hat; rw [← Ny199.out] at ho; have n0_ := Aside0.mk (zbm (g := gb180) (o := .cells #[.int .i64 a0_0, .int .i64 a0_1, .int .i64 a0_2, .int .i64 a0_3, .int .i64 a0_4, .int .i64 a0_5, .bool true, .int .i64 a0_7, .int .i64 a0_8, .slice A0_9 l0_9.length c0_9, .int .i64 a0_10, .int .i64 a0_11, .slice A0_12 l0_12.length c0_12, .string a0_13] 66 (0, 0)) (by (with_reducible repeat (first | refine zag ?_ _ | refine zai ?_ | refine zaf ?_ _)); exact BK180.out) hg (Kd.R_ne HO198.out BK180.out (by decide))); have n1_ := Aside0.mk (hb); have n2_ := Aside0.mk (ho); clear BK180; clear HB; clear HO198; have BK180 := n0_; have HB := n1_; have HO201 := n2_; clear n0_ n1_ n2_; clear ho hb hg hat))
      go_meet
      case rel => exact ⟨_, (y199), H', ⟨by have := HJ1.out; first | omega | exact Nat.le_refl _⟩, ⟨by (with_reducible repeat (first | apply Kd.zbb | apply Kd.zba | apply Kd.zbf)); exact HO201.out⟩, ⟨by (with_reducible repeat (first | refine zag ?_ _ | refine zai ?_ | refine zaf ?_ _)); exact BK180.out⟩, ⟨by repeat (first | (with_reducible first | exact HB.out | apply zad | apply zac | apply zae | refine zah ?_ GE180.out) | exact HB.out)⟩⟩
     ·rw [if_neg c33] at H
      exact absurd H (by simp)
    ·replace c32 := Bool.eq_false_iff.mpr c32
     subst c32
     have H1 : (if t196.length < 140737488355328 then (zam.j1 kj1 x4_1 (t196 ++ [0]) a0_0 a0_1 a0_2 a0_3 a0_4 a0_5 false a0_7 a0_8 l0_9 a0_10 a0_11 l0_12 a0_13) else (none)) = some (r1, r2) := by rw [if_neg (show ¬ (false = true) by decide)] at H; exact H
     clear H
     have H := H1
     clear H1
     by_cases c35 : t196.length < 140737488355328
     ·rw [if_pos c35] at H
      have LMc35 := Aside0.mk c35
      clear c35
      obtain ⟨y202, hy202⟩ : ∃ y_ : List Int, y_ = (t196 ++ [0]) := ⟨_, rfl⟩
      replace H : (zam.j1 kj1 x4_1 y202 a0_0 a0_1 a0_2 a0_3 a0_4 a0_5 false a0_7 a0_8 l0_9 a0_10 a0_11 l0_12 a0_13) = some (r1, r2) := by first | (rw [hy202]; with_reducible exact H) | (have H2_ := (Option.bind_some _ _).symm.trans H; rw [hy202]; with_reducible exact H2_) | (have H2_ := (Option.bind_some _ _).symm.trans H; with_reducible exact H2_) | with_reducible exact H | (rw [hy202]; exact H) | exact H
      have Ny202 := Aside0.mk hy202
      clear hy202
      have H' := Aside0.mk H
      clear H
      go_wp2_with (first | ((with_reducible refine zcd (b := .append) (xs := #[.tmp 49, .tmp 50]) rfl ?_); at_builtin; refine Kd.zdd (Kd.int .u8) (w0 := w) w.heap.size rfl (.tmp 49) (.tmp 50) 27 5 (.int .u8 0) 1 rfl Try.underlying27 info5 rfl (by decide) (by omega) v197 t196 0 [.int .u8 0] (fun _ => True) (fun _ => False) rfl rfl ?aP (fun _ hk => hk.elim) ?aF ?aO ?aB ?aS ?aL ?_; (case aP => exact rfl); (case aB => exact (by repeat (first | (with_reducible first | exact HB.out | apply zad | apply zac | apply zae | refine zah ?_ GE180.out) | exact HB.out))); (case aF => exact (fun _ _ => trivial)); (case aO => exact (by (with_reducible repeat (first | apply Kd.zbb | apply Kd.zba | apply Kd.zbf)); exact HO198.out)); (case aS => exact (zaz (by repeat (first | (with_reducible first | exact HB.out | apply zad | apply zac | apply zae | refine zah ?_ GE180.out) | exact HB.out)))); (case aL => have := LMc35.out; omega); intro v203 w36 ho hb hg hat; rw [← Ny202.out] at ho; have n0_ := Aside0.mk (zbm (g := gb180) (o := .cells #[.int .i64 a0_0, .int .i64 a0_1, .int .i64 a0_2, .int .i64 a0_3, .int .i64 a0_4, .int .i64 a0_5, .bool false, .int .i64 a0_7, .int .i64 a0_8, .slice A0_9 l0_9.length c0_9, .int .i64 a0_10, .int .i64 a0_11, .slice A0_12 l0_12.length c0_12, .string a0_13] 66 (0, 0)) (by (with_reducible repeat (first | refine zag ?_ _ | refine zai ?_ | refine zaf ?_ _)); exact BK180.out) hg (Kd.R_ne HO198.out BK180.out (by decide))); have n1_ := Aside0.mk (hb); have n2_ := Aside0.mk (ho); clear BK180; clear HB; clear HO198; have BK180 := n0_; have HB := n1_; have HO204 := n2_; clear n0_ n1_ n2_; clear ho hb hg hat))
      go_meet
      case rel => exact ⟨_, (y202), H', ⟨by have := HJ1.out; first | omega | exact Nat.le_refl _⟩, ⟨by (with_reducible repeat (first | apply Kd.zbb | apply Kd.zba | apply Kd.zbf)); exact HO204.out⟩, ⟨by (with_reducible repeat (first | refine zag ?_ _ | refine zai ?_ | refine zaf ?_ _)); exact BK180.out⟩, ⟨by repeat (first | (with_reducible first | exact HB.out | apply zad | apply zac | apply zae | refine zah ?_ GE180.out) | exact HB.out)⟩⟩
     ·rw [if_neg c35] at H
      exact absurd H (by simp)
   case rest =>
    clear HC12
    try clear c2
    try clear p2
    try clear c3
    try clear c4
    try clear c4b0
    try clear c5
    try clear c29
    try clear c32
    try clear c33
    try clear c35
    try clear hcz13_0
    try clear hcz13_1
    try clear hcz13_10
    try clear hcz13_11
    try clear hcz13_12
    try clear hcz13_13
    try clear hcz13_2
    try clear hcz13_3
    try clear hcz13_4
    try clear hcz13_5
    try clear hcz13_6
    try clear hcz13_7
    try clear hcz13_8
    try clear hcz13_9
    try clear hcz16_0
    try clear hcz16_1
    try clear hcz16_10
    try clear hcz16_11
    try clear hcz16_12
    try clear hcz16_13
    try clear hcz16_2
    try clear hcz16_3
    try clear hcz16_4
    try clear hcz16_5
    try clear hcz16_6
    try clear hcz16_7
    try clear hcz16_8
    try clear hcz16_9
    try clear hcz19_0
    try clear hcz19_1
    try clear hcz19_10
    try clear hcz19_11
    try clear hcz19_12
    try clear hcz19_13
    try clear hcz19_2
    try clear hcz19_3
    try clear hcz19_4
    try clear hcz19_5
    try clear hcz19_6
    try clear hcz19_7
    try clear hcz19_8
    try clear hcz19_9
    try clear hcz22_0
    try clear hcz22_1
    try clear hcz22_10
    try clear hcz22_11
    try clear hcz22_12
    try clear hcz22_13
    try clear hcz22_2
    try clear hcz22_3
    try clear hcz22_4
    try clear hcz22_5
    try clear hcz22_6
    try clear hcz22_7
    try clear hcz22_8
    try clear hcz22_9
    try clear hcz25_0
    try clear hcz25_1
    try clear hcz25_10
    try clear hcz25_11
    try clear hcz25_12
    try clear hcz25_13
    try clear hcz25_2
    try clear hcz25_3
    try clear hcz25_4
    try clear hcz25_5
    try clear hcz25_6
    try clear hcz25_7
    try clear hcz25_8
    try clear hcz25_9
    try clear hcz28_0
    try clear hcz28_1
    try clear hcz28_10
    try clear hcz28_11
    try clear hcz28_12
    try clear hcz28_13
    try clear hcz28_2
    try clear hcz28_3
    try clear hcz28_4
    try clear hcz28_5
    try clear hcz28_6
    try clear hcz28_7
    try clear hcz28_8
    try clear hcz28_9
    try clear hcz31_0
    try clear hcz31_1
    try clear hcz31_10
    try clear hcz31_11
    try clear hcz31_12
    try clear hcz31_13
    try clear hcz31_2
    try clear hcz31_3
    try clear hcz31_4
    try clear hcz31_5
    try clear hcz31_6
    try clear hcz31_7
    try clear hcz31_8
    try clear hcz31_9
    try clear hcz5_0
    try clear hcz5_1
    try clear hcz5_10
    try clear hcz5_11
    try clear hcz5_12
    try clear hcz5_13
    try clear hcz5_2
    try clear hcz5_3
    try clear hcz5_4
    try clear hcz5_5
    try clear hcz5_6
    try clear hcz5_7
    try clear hcz5_8
    try clear hcz5_9
    try clear hcz6_0
    try clear hcz6_1
    try clear hcz6_10
    try clear hcz6_11
    try clear hcz6_12
    try clear hcz6_13
    try clear hcz6_2
    try clear hcz6_3
    try clear hcz6_4
    try clear hcz6_5
    try clear hcz6_6
    try clear hcz6_7
    try clear hcz6_8
    try clear hcz6_9
    try clear hfz13_0
    try clear hfz13_1
    try clear hfz13_10
    try clear hfz13_11
    try clear hfz13_12
    try clear hfz13_13
    try clear hfz13_2
    try clear hfz13_3
    try clear hfz13_4
    try clear hfz13_5
    try clear hfz13_6
    try clear hfz13_7
    try clear hfz13_8
    try clear hfz13_9
    try clear hfz16_0
    try clear hfz16_1
    try clear hfz16_10
    try clear hfz16_11
    try clear hfz16_12
    try clear hfz16_13
    try clear hfz16_2
    try clear hfz16_3
    try clear hfz16_4
    try clear hfz16_5
    try clear hfz16_6
    try clear hfz16_7
    try clear hfz16_8
    try clear hfz16_9
    try clear hfz19_0
    try clear hfz19_1
    try clear hfz19_10
    try clear hfz19_11
    try clear hfz19_12
    try clear hfz19_13
    try clear hfz19_2
    try clear hfz19_3
    try clear hfz19_4
    try clear hfz19_5
    try clear hfz19_6
    try clear hfz19_7
    try clear hfz19_8
    try clear hfz19_9
    try clear hfz22_0
    try clear hfz22_1
    try clear hfz22_10
    try clear hfz22_11
    try clear hfz22_12
    try clear hfz22_13
    try clear hfz22_2
    try clear hfz22_3
    try clear hfz22_4
    try clear hfz22_5
    try clear hfz22_6
    try clear hfz22_7
    try clear hfz22_8
    try clear hfz22_9
    try clear hfz25_0
    try clear hfz25_1
    try clear hfz25_10
    try clear hfz25_11
    try clear hfz25_12
    try clear hfz25_13
    try clear hfz25_2
    try clear hfz25_3
    try clear hfz25_4
    try clear hfz25_5
    try clear hfz25_6
    try clear hfz25_7
    try clear hfz25_8
    try clear hfz25_9
    try clear hfz28_0
    try clear hfz28_1
    try clear hfz28_10
    try clear hfz28_11
    try clear hfz28_12
    try clear hfz28_13
    try clear hfz28_2
    try clear hfz28_3
    try clear hfz28_4
    try clear hfz28_5
    try clear hfz28_6
    try clear hfz28_7
    try clear hfz28_8
    try clear hfz28_9
    try clear hfz31_0
    try clear hfz31_1
    try clear hfz31_10
    try clear hfz31_11
    try clear hfz31_12
    try clear hfz31_13
    try clear hfz31_2
    try clear hfz31_3
    try clear hfz31_4
    try clear hfz31_5
    try clear hfz31_6
    try clear hfz31_7
    try clear hfz31_8
    try clear hfz31_9
    try clear hfz5_0
    try clear hfz5_1
    try clear hfz5_10
    try clear hfz5_11
    try clear hfz5_12
    try clear hfz5_13
    try clear hfz5_2
    try clear hfz5_3
    try clear hfz5_4
    try clear hfz5_5
    try clear hfz5_6
    try clear hfz5_7
    try clear hfz5_8
    try clear hfz5_9
    try clear hfz6_0
    try clear hfz6_1
    try clear hfz6_10
    try clear hfz6_11
    try clear hfz6_12
    try clear hfz6_13
    try clear hfz6_2
    try clear hfz6_3
    try clear hfz6_4
    try clear hfz6_5
    try clear hfz6_6
    try clear hfz6_7
    try clear hfz6_8
    try clear hfz6_9
    try clear p2
    obtain ⟨kq, x5_11, HA, HJ11, HO_5, BK180, HB⟩ := hcut
    cases kq with
    | zero => exact absurd HA.out (by simp [zam.j1])
    | succ kj11 =>
     have H := HA.out
     clear HA
     simp only [zam.j1] at H
     replace H := Option.bind_eq_some_iff.mp H
     obtain ⟨t205, A370, H⟩ := H
     replace H : ((zal.f kj11 t205 a0_8).bind fun t208 => ((zal.f kj11 t208 (l0_9.length : Int)).bind fun t211 => (zam.l0 kj11 x4_1 t211 l0_9 (l0_9.length : Int) 0 a0_0 a0_1 a0_2 a0_3 a0_4 a0_5 a0_6 a0_7 a0_8 l0_9 a0_10 a0_11 l0_12 a0_13))) = some (r1, r2) := H
     have A37 := Aside0.mk A370
     clear A370
     replace H := Option.bind_eq_some_iff.mp H
     obtain ⟨t208, A380, H⟩ := H
     replace H : ((zal.f kj11 t208 (l0_9.length : Int)).bind fun t211 => (zam.l0 kj11 x4_1 t211 l0_9 (l0_9.length : Int) 0 a0_0 a0_1 a0_2 a0_3 a0_4 a0_5 a0_6 a0_7 a0_8 l0_9 a0_10 a0_11 l0_12 a0_13)) = some (r1, r2) := H
     have A38 := Aside0.mk A380
     clear A380
     replace H := Option.bind_eq_some_iff.mp H
     obtain ⟨t211, A390, H⟩ := H
     replace H : (zam.l0 kj11 x4_1 t211 l0_9 (l0_9.length : Int) 0 a0_0 a0_1 a0_2 a0_3 a0_4 a0_5 a0_6 a0_7 a0_8 l0_9 a0_10 a0_11 l0_12 a0_13) = some (r1, r2) := H
     have A39 := Aside0.mk A390
     clear A390
     have H' := Aside0.mk H
     clear H
     have hcz40_0 : wc.cell? ⟨gb180, 0, none⟩ = some (.int .i64 a0_0) := (zaa BK180.out 0).trans rfl
     have hcz40_1 : wc.cell? ⟨gb180, 1, none⟩ = some (.int .i64 a0_1) := (zaa BK180.out 1).trans rfl
     have hcz40_2 : wc.cell? ⟨gb180, 2, none⟩ = some (.int .i64 a0_2) := (zaa BK180.out 2).trans rfl
     have hcz40_3 : wc.cell? ⟨gb180, 3, none⟩ = some (.int .i64 a0_3) := (zaa BK180.out 3).trans rfl
     have hcz40_4 : wc.cell? ⟨gb180, 4, none⟩ = some (.int .i64 a0_4) := (zaa BK180.out 4).trans rfl
     have hcz40_5 : wc.cell? ⟨gb180, 5, none⟩ = some (.int .i64 a0_5) := (zaa BK180.out 5).trans rfl
     have hcz40_6 : wc.cell? ⟨gb180, 6, none⟩ = some (.bool a0_6) := (zaa BK180.out 6).trans rfl
     have hcz40_7 : wc.cell? ⟨gb180, 7, none⟩ = some (.int .i64 a0_7) := (zaa BK180.out 7).trans rfl
     have hcz40_8 : wc.cell? ⟨gb180, 8, none⟩ = some (.int .i64 a0_8) := (zaa BK180.out 8).trans rfl
     have hcz40_9 : wc.cell? ⟨gb180, 9, none⟩ = some (.slice A0_9 l0_9.length c0_9) := (zaa BK180.out 9).trans rfl
     have hcz40_10 : wc.cell? ⟨gb180, 10, none⟩ = some (.int .i64 a0_10) := (zaa BK180.out 10).trans rfl
     have hcz40_11 : wc.cell? ⟨gb180, 11, none⟩ = some (.int .i64 a0_11) := (zaa BK180.out 11).trans rfl
     have hcz40_12 : wc.cell? ⟨gb180, 12, none⟩ = some (.slice A0_12 l0_12.length c0_12) := (zaa BK180.out 12).trans rfl
     have hcz40_13 : wc.cell? ⟨gb180, 13, none⟩ = some (.string a0_13) := (zaa BK180.out 13).trans rfl
     have hfz40_0 := zab BK180.out 0
     have hfz40_1 := zab BK180.out 1
     have hfz40_2 := zab BK180.out 2
     have hfz40_3 := zab BK180.out 3
     have hfz40_4 := zab BK180.out 4
     have hfz40_5 := zab BK180.out 5
     have hfz40_6 := zab BK180.out 6
     have hfz40_7 := zab BK180.out 7
     have hfz40_8 := zab BK180.out 8
     have hfz40_9 := zab BK180.out 9
     have hfz40_10 := zab BK180.out 10
     have hfz40_11 := zab BK180.out 11
     have hfz40_12 := zab BK180.out 12
     have hfz40_13 := zab BK180.out 13
     obtain ⟨Ao41, co41, eo41⟩ := Kd.zbu HO_5.out
     subst eo41
     go_wp2_with (first | ((with_reducible refine zbe (f := 55) rfl ?_); refine zcg (some 55) rfl rfl Try.func55 (by kernel_rfl) rfl #[.slice Ao41 x5_11.length co41, .int .i64 a0_7] rfl (by (try simp only [List.map_toArray, List.map_cons, List.map_nil]); first | done | rfl | (simp only [List.length_drop, List.length_take]; rfl)) ?_; (with_reducible refine (zal.calls kj11 (fun k_ => some k_ = (.slice Ao41 x5_11.length co41 : Value).ownBlock) (.slice Ao41 x5_11.length co41) x5_11 a0_7 t205 w _ ?side1 ?side2 A37.out).mono ?_); (case side1 => repeat (first | (with_reducible first | exact HB.out | apply zad | apply zac | apply zae | refine zah ?_ GE180.out) | exact HB.out)); (case side2 => exact Kd.zct rfl HO_5.out); rintro e w42 ⟨v206, rfl, ho0, hb, hkp⟩; refine ⟨_, rfl, ?_⟩; have n0_ := Aside0.mk (zbr (by (with_reducible repeat (first | refine zag ?_ _ | refine zai ?_ | refine zaf ?_ _)); exact BK180.out) hkp (fun hs_ => (fun e_ => (Kd.R_ne HO_5.out BK180.out (by decide)) e_) hs_)); have n1_ := Aside0.mk (Kd.zbh (ok' := fun k_ => True) ho0 (fun k_ hk_ => trivial)); have n2_ := Aside0.mk (hb); clear BK180; clear HB; clear HO_5; have BK180 := n0_; have HO207 := n1_; have HB := n2_; clear n0_ n1_ n2_; (try clear hb); (try clear hkp); (try clear ho0); have hcz43_0 : w42.cell? ⟨gb180, 0, none⟩ = some (.int .i64 a0_0) := (zaa BK180.out 0).trans rfl; have hcz43_1 : w42.cell? ⟨gb180, 1, none⟩ = some (.int .i64 a0_1) := (zaa BK180.out 1).trans rfl; have hcz43_2 : w42.cell? ⟨gb180, 2, none⟩ = some (.int .i64 a0_2) := (zaa BK180.out 2).trans rfl; have hcz43_3 : w42.cell? ⟨gb180, 3, none⟩ = some (.int .i64 a0_3) := (zaa BK180.out 3).trans rfl; have hcz43_4 : w42.cell? ⟨gb180, 4, none⟩ = some (.int .i64 a0_4) := (zaa BK180.out 4).trans rfl; have hcz43_5 : w42.cell? ⟨gb180, 5, none⟩ = some (.int .i64 a0_5) := (zaa BK180.out 5).trans rfl; have hcz43_6 : w42.cell? ⟨gb180, 6, none⟩ = some (.bool a0_6) := (zaa BK180.out 6).trans rfl; have hcz43_7 : w42.cell? ⟨gb180, 7, none⟩ = some (.int .i64 a0_7) := (zaa BK180.out 7).trans rfl; have hcz43_8 : w42.cell? ⟨gb180, 8, none⟩ = some (.int .i64 a0_8) := (zaa BK180.out 8).trans rfl; have hcz43_9 : w42.cell? ⟨gb180, 9, none⟩ = some (.slice A0_9 l0_9.length c0_9) := (zaa BK180.out 9).trans rfl; have hcz43_10 : w42.cell? ⟨gb180, 10, none⟩ = some (.int .i64 a0_10) := (zaa BK180.out 10).trans rfl; have hcz43_11 : w42.cell? ⟨gb180, 11, none⟩ = some (.int .i64 a0_11) := (zaa BK180.out 11).trans rfl; have hcz43_12 : w42.cell? ⟨gb180, 12, none⟩ = some (.slice A0_12 l0_12.length c0_12) := (zaa BK180.out 12).trans rfl; have hcz43_13 : w42.cell? ⟨gb180, 13, none⟩ = some (.string a0_13) := (zaa BK180.out 13).trans rfl; have hfz43_0 := zab BK180.out 0; have hfz43_1 := zab BK180.out 1; have hfz43_2 := zab BK180.out 2; have hfz43_3 := zab BK180.out 3; have hfz43_4 := zab BK180.out 4; have hfz43_5 := zab BK180.out 5; have hfz43_6 := zab BK180.out 6; have hfz43_7 := zab BK180.out 7; have hfz43_8 := zab BK180.out 8; have hfz43_9 := zab BK180.out 9; have hfz43_10 := zab BK180.out 10; have hfz43_11 := zab BK180.out 11; have hfz43_12 := zab BK180.out 12; have hfz43_13 := zab BK180.out 13; obtain ⟨Ao44, co44, eo44⟩ := Kd.zbu HO207.out; subst eo44) | ((with_reducible refine zbe (f := 55) rfl ?_); refine zcg (some 59) rfl rfl Try.func55 (by kernel_rfl) rfl #[.slice Ao44 t205.length co44, .int .i64 a0_8] rfl (by (try simp only [List.map_toArray, List.map_cons, List.map_nil]); first | done | rfl | (simp only [List.length_drop, List.length_take]; rfl)) ?_; (with_reducible refine (zal.calls kj11 (fun k_ => some k_ = (.slice Ao44 t205.length co44 : Value).ownBlock) (.slice Ao44 t205.length co44) t205 a0_8 t208 w _ ?side1 ?side2 A38.out).mono ?_); (case side1 => repeat (first | (with_reducible first | exact HB.out | apply zad | apply zac | apply zae | refine zah ?_ GE180.out) | exact HB.out)); (case side2 => exact Kd.zct rfl HO207.out); rintro e w45 ⟨v209, rfl, ho0, hb, hkp⟩; refine ⟨_, rfl, ?_⟩; have n0_ := Aside0.mk (zbr (by (with_reducible repeat (first | refine zag ?_ _ | refine zai ?_ | refine zaf ?_ _)); exact BK180.out) hkp (fun hs_ => (fun e_ => (Kd.R_ne HO207.out BK180.out (by decide)) e_) hs_)); have n1_ := Aside0.mk (Kd.zbh (ok' := fun k_ => True) ho0 (fun k_ hk_ => trivial)); have n2_ := Aside0.mk (hb); clear BK180; clear HB; clear HO207; have BK180 := n0_; have HO210 := n1_; have HB := n2_; clear n0_ n1_ n2_; (try clear hb); (try clear hkp); (try clear ho0); have hcz46_0 : w45.cell? ⟨gb180, 0, none⟩ = some (.int .i64 a0_0) := (zaa BK180.out 0).trans rfl; have hcz46_1 : w45.cell? ⟨gb180, 1, none⟩ = some (.int .i64 a0_1) := (zaa BK180.out 1).trans rfl; have hcz46_2 : w45.cell? ⟨gb180, 2, none⟩ = some (.int .i64 a0_2) := (zaa BK180.out 2).trans rfl; have hcz46_3 : w45.cell? ⟨gb180, 3, none⟩ = some (.int .i64 a0_3) := (zaa BK180.out 3).trans rfl; have hcz46_4 : w45.cell? ⟨gb180, 4, none⟩ = some (.int .i64 a0_4) := (zaa BK180.out 4).trans rfl; have hcz46_5 : w45.cell? ⟨gb180, 5, none⟩ = some (.int .i64 a0_5) := (zaa BK180.out 5).trans rfl; have hcz46_6 : w45.cell? ⟨gb180, 6, none⟩ = some (.bool a0_6) := (zaa BK180.out 6).trans rfl; have hcz46_7 : w45.cell? ⟨gb180, 7, none⟩ = some (.int .i64 a0_7) := (zaa BK180.out 7).trans rfl; have hcz46_8 : w45.cell? ⟨gb180, 8, none⟩ = some (.int .i64 a0_8) := (zaa BK180.out 8).trans rfl; have hcz46_9 : w45.cell? ⟨gb180, 9, none⟩ = some (.slice A0_9 l0_9.length c0_9) := (zaa BK180.out 9).trans rfl; have hcz46_10 : w45.cell? ⟨gb180, 10, none⟩ = some (.int .i64 a0_10) := (zaa BK180.out 10).trans rfl; have hcz46_11 : w45.cell? ⟨gb180, 11, none⟩ = some (.int .i64 a0_11) := (zaa BK180.out 11).trans rfl; have hcz46_12 : w45.cell? ⟨gb180, 12, none⟩ = some (.slice A0_12 l0_12.length c0_12) := (zaa BK180.out 12).trans rfl; have hcz46_13 : w45.cell? ⟨gb180, 13, none⟩ = some (.string a0_13) := (zaa BK180.out 13).trans rfl; have hfz46_0 := zab BK180.out 0; have hfz46_1 := zab BK180.out 1; have hfz46_2 := zab BK180.out 2; have hfz46_3 := zab BK180.out 3; have hfz46_4 := zab BK180.out 4; have hfz46_5 := zab BK180.out 5; have hfz46_6 := zab BK180.out 6; have hfz46_7 := zab BK180.out 7; have hfz46_8 := zab BK180.out 8; have hfz46_9 := zab BK180.out 9; have hfz46_10 := zab BK180.out 10; have hfz46_11 := zab BK180.out 11; have hfz46_12 := zab BK180.out 12; have hfz46_13 := zab BK180.out 13; obtain ⟨Ao47, co47, eo47⟩ := Kd.zbu HO210.out; subst eo47) | ((with_reducible refine zbe (f := 55) rfl ?_); refine zcg (some 64) rfl rfl Try.func55 (by kernel_rfl) rfl #[.slice Ao47 t208.length co47, .int .i64 (l0_9.length : Int)] rfl (by (try simp only [List.map_toArray, List.map_cons, List.map_nil]); first | done | rfl | (simp only [List.length_drop, List.length_take]; rfl)) ?_; (with_reducible refine (zal.calls kj11 (fun k_ => some k_ = (.slice Ao47 t208.length co47 : Value).ownBlock) (.slice Ao47 t208.length co47) t208 (l0_9.length : Int) t211 w _ ?side1 ?side2 A39.out).mono ?_); (case side1 => repeat (first | (with_reducible first | exact HB.out | apply zad | apply zac | apply zae | refine zah ?_ GE180.out) | exact HB.out)); (case side2 => exact Kd.zct rfl HO210.out); rintro e w48 ⟨v212, rfl, ho0, hb, hkp⟩; refine ⟨_, rfl, ?_⟩; have n0_ := Aside0.mk (zbr (by (with_reducible repeat (first | refine zag ?_ _ | refine zai ?_ | refine zaf ?_ _)); exact BK180.out) hkp (fun hs_ => (fun e_ => (Kd.R_ne HO210.out BK180.out (by decide)) e_) hs_)); have n1_ := Aside0.mk (Kd.zbh (ok' := fun k_ => True) ho0 (fun k_ hk_ => trivial)); have n2_ := Aside0.mk (hb); clear BK180; clear HB; clear HO210; have BK180 := n0_; have HO213 := n1_; have HB := n2_; clear n0_ n1_ n2_; (try clear hb); (try clear hkp); (try clear ho0); have hcz49_0 : w48.cell? ⟨gb180, 0, none⟩ = some (.int .i64 a0_0) := (zaa BK180.out 0).trans rfl; have hcz49_1 : w48.cell? ⟨gb180, 1, none⟩ = some (.int .i64 a0_1) := (zaa BK180.out 1).trans rfl; have hcz49_2 : w48.cell? ⟨gb180, 2, none⟩ = some (.int .i64 a0_2) := (zaa BK180.out 2).trans rfl; have hcz49_3 : w48.cell? ⟨gb180, 3, none⟩ = some (.int .i64 a0_3) := (zaa BK180.out 3).trans rfl; have hcz49_4 : w48.cell? ⟨gb180, 4, none⟩ = some (.int .i64 a0_4) := (zaa BK180.out 4).trans rfl; have hcz49_5 : w48.cell? ⟨gb180, 5, none⟩ = some (.int .i64 a0_5) := (zaa BK180.out 5).trans rfl; have hcz49_6 : w48.cell? ⟨gb180, 6, none⟩ = some (.bool a0_6) := (zaa BK180.out 6).trans rfl; have hcz49_7 : w48.cell? ⟨gb180, 7, none⟩ = some (.int .i64 a0_7) := (zaa BK180.out 7).trans rfl; have hcz49_8 : w48.cell? ⟨gb180, 8, none⟩ = some (.int .i64 a0_8) := (zaa BK180.out 8).trans rfl; have hcz49_9 : w48.cell? ⟨gb180, 9, none⟩ = some (.slice A0_9 l0_9.length c0_9) := (zaa BK180.out 9).trans rfl; have hcz49_10 : w48.cell? ⟨gb180, 10, none⟩ = some (.int .i64 a0_10) := (zaa BK180.out 10).trans rfl; have hcz49_11 : w48.cell? ⟨gb180, 11, none⟩ = some (.int .i64 a0_11) := (zaa BK180.out 11).trans rfl; have hcz49_12 : w48.cell? ⟨gb180, 12, none⟩ = some (.slice A0_12 l0_12.length c0_12) := (zaa BK180.out 12).trans rfl; have hcz49_13 : w48.cell? ⟨gb180, 13, none⟩ = some (.string a0_13) := (zaa BK180.out 13).trans rfl; have hfz49_0 := zab BK180.out 0; have hfz49_1 := zab BK180.out 1; have hfz49_2 := zab BK180.out 2; have hfz49_3 := zab BK180.out 3; have hfz49_4 := zab BK180.out 4; have hfz49_5 := zab BK180.out 5; have hfz49_6 := zab BK180.out 6; have hfz49_7 := zab BK180.out 7; have hfz49_8 := zab BK180.out 8; have hfz49_9 := zab BK180.out 9; have hfz49_10 := zab BK180.out 10; have hfz49_11 := zab BK180.out 11; have hfz49_12 := zab BK180.out 12; have hfz49_13 := zab BK180.out 13))
     go_loopg [4, 5, 68] kj11 (fun kq v4 v5 v68 w' => ∃ (x4_3 : Bool) (x5_3 : List Int) (x68_3 : Int), v4 = .bool x4_3 ∧ v68 = .int .i64 x68_3 ∧ Aside0 (zam.l0 kq x4_3 x5_3 l0_9 (l0_9.length : Int) x68_3 a0_0 a0_1 a0_2 a0_3 a0_4 a0_5 a0_6 a0_7 a0_8 l0_9 a0_10 a0_11 l0_12 a0_13 = some (r1, r2)) ∧ Aside0 (kq ≤ kj11) ∧ Aside0 (Kd.R (Kd.int .u8) 5 w' w.heap.size (fun _ => True) v5 x5_3) ∧ Aside0 (w'.heap[gb180]? = some (.cells #[.int .i64 a0_0, .int .i64 a0_1, .int .i64 a0_2, .int .i64 a0_3, .int .i64 a0_4, .int .i64 a0_5, .bool a0_6, .int .i64 a0_7, .int .i64 a0_8, (.slice A0_9 l0_9.length c0_9), .int .i64 a0_10, .int .i64 a0_11, (.slice A0_12 l0_12.length c0_12), .string a0_13] 66 (0, 0))) ∧ Aside0 (Below w.heap.size w w'))
     case atStart => exact ⟨(x4_1), (t211), (0), (by first | rfl | (simp; done) | (simp [*]; done)), (by first | rfl | (simp; done) | (simp [*]; done)), H', ⟨Nat.le_refl _⟩, ⟨by (with_reducible repeat (first | apply Kd.zbb | apply Kd.zba | apply Kd.zbf)); exact HO213.out⟩, ⟨by (with_reducible repeat (first | refine zag ?_ _ | refine zai ?_ | refine zaf ?_ _)); exact BK180.out⟩, ⟨by repeat (first | (with_reducible first | exact HB.out | apply zad | apply zac | apply zae | refine zah ?_ GE180.out) | exact HB.out)⟩⟩
     case round =>
      clear H'
      try clear c2
      try clear p2
      try clear c3
      try clear c4
      try clear c4b0
      try clear c5
      try clear c29
      try clear c32
      try clear c33
      try clear c35
      try clear hcz13_0
      try clear hcz13_1
      try clear hcz13_10
      try clear hcz13_11
      try clear hcz13_12
      try clear hcz13_13
      try clear hcz13_2
      try clear hcz13_3
      try clear hcz13_4
      try clear hcz13_5
      try clear hcz13_6
      try clear hcz13_7
      try clear hcz13_8
      try clear hcz13_9
      try clear hcz16_0
      try clear hcz16_1
      try clear hcz16_10
      try clear hcz16_11
      try clear hcz16_12
      try clear hcz16_13
      try clear hcz16_2
      try clear hcz16_3
      try clear hcz16_4
      try clear hcz16_5
      try clear hcz16_6
      try clear hcz16_7
      try clear hcz16_8
      try clear hcz16_9
      try clear hcz19_0
      try clear hcz19_1
      try clear hcz19_10
      try clear hcz19_11
      try clear hcz19_12
      try clear hcz19_13
      try clear hcz19_2
      try clear hcz19_3
      try clear hcz19_4
      try clear hcz19_5
      try clear hcz19_6
      try clear hcz19_7
      try clear hcz19_8
      try clear hcz19_9
      try clear hcz22_0
      try clear hcz22_1
      try clear hcz22_10
      try clear hcz22_11
      try clear hcz22_12
      try clear hcz22_13
      try clear hcz22_2
      try clear hcz22_3
      try clear hcz22_4
      try clear hcz22_5
      try clear hcz22_6
      try clear hcz22_7
      try clear hcz22_8
      try clear hcz22_9
      try clear hcz25_0
      try clear hcz25_1
      try clear hcz25_10
      try clear hcz25_11
      try clear hcz25_12
      try clear hcz25_13
      try clear hcz25_2
      try clear hcz25_3
      try clear hcz25_4
      try clear hcz25_5
      try clear hcz25_6
      try clear hcz25_7
      try clear hcz25_8
      try clear hcz25_9
      try clear hcz28_0
      try clear hcz28_1
      try clear hcz28_10
      try clear hcz28_11
      try clear hcz28_12
      try clear hcz28_13
      try clear hcz28_2
      try clear hcz28_3
      try clear hcz28_4
      try clear hcz28_5
      try clear hcz28_6
      try clear hcz28_7
      try clear hcz28_8
      try clear hcz28_9
      try clear hcz31_0
      try clear hcz31_1
      try clear hcz31_10
      try clear hcz31_11
      try clear hcz31_12
      try clear hcz31_13
      try clear hcz31_2
      try clear hcz31_3
      try clear hcz31_4
      try clear hcz31_5
      try clear hcz31_6
      try clear hcz31_7
      try clear hcz31_8
      try clear hcz31_9
      try clear hcz40_0
      try clear hcz40_1
      try clear hcz40_10
      try clear hcz40_11
      try clear hcz40_12
      try clear hcz40_13
      try clear hcz40_2
      try clear hcz40_3
      try clear hcz40_4
      try clear hcz40_5
      try clear hcz40_6
      try clear hcz40_7
      try clear hcz40_8
      try clear hcz40_9
      try clear hcz43_0
      try clear hcz43_1
      try clear hcz43_10
      try clear hcz43_11
      try clear hcz43_12
      try clear hcz43_13
      try clear hcz43_2
      try clear hcz43_3
      try clear hcz43_4
      try clear hcz43_5
      try clear hcz43_6
      try clear hcz43_7
      try clear hcz43_8
      try clear hcz43_9
      try clear hcz46_0
      try clear hcz46_1
      try clear hcz46_10
      try clear hcz46_11
      try clear hcz46_12
      try clear hcz46_13
      try clear hcz46_2
      try clear hcz46_3
      try clear hcz46_4
      try clear hcz46_5
      try clear hcz46_6
      try clear hcz46_7
      try clear hcz46_8
      try clear hcz46_9
      try clear hcz49_0
      try clear hcz49_1
      try clear hcz49_10
      try clear hcz49_11
      try clear hcz49_12
      try clear hcz49_13
      try clear hcz49_2
      try clear hcz49_3
      try clear hcz49_4
      try clear hcz49_5
      try clear hcz49_6
      try clear hcz49_7
      try clear hcz49_8
      try clear hcz49_9
      try clear hcz5_0
      try clear hcz5_1
      try clear hcz5_10
      try clear hcz5_11
      try clear hcz5_12
      try clear hcz5_13
      try clear hcz5_2
      try clear hcz5_3
      try clear hcz5_4
      try clear hcz5_5
      try clear hcz5_6
      try clear hcz5_7
      try clear hcz5_8
      try clear hcz5_9
      try clear hcz6_0
      try clear hcz6_1
      try clear hcz6_10
      try clear hcz6_11
      try clear hcz6_12
      try clear hcz6_13
      try clear hcz6_2
      try clear hcz6_3
      try clear hcz6_4
      try clear hcz6_5
      try clear hcz6_6
      try clear hcz6_7
      try clear hcz6_8
      try clear hcz6_9
      try clear hfz13_0
      try clear hfz13_1
      try clear hfz13_10
      try clear hfz13_11
      try clear hfz13_12
      try clear hfz13_13
      try clear hfz13_2
      try clear hfz13_3
      try clear hfz13_4
      try clear hfz13_5
      try clear hfz13_6
      try clear hfz13_7
      try clear hfz13_8
      try clear hfz13_9
      try clear hfz16_0
      try clear hfz16_1
      try clear hfz16_10
      try clear hfz16_11
      try clear hfz16_12
      try clear hfz16_13
      try clear hfz16_2
      try clear hfz16_3
      try clear hfz16_4
      try clear hfz16_5
      try clear hfz16_6
      try clear hfz16_7
      try clear hfz16_8
      try clear hfz16_9
      try clear hfz19_0
      try clear hfz19_1
      try clear hfz19_10
      try clear hfz19_11
      try clear hfz19_12
      try clear hfz19_13
      try clear hfz19_2
      try clear hfz19_3
      try clear hfz19_4
      try clear hfz19_5
      try clear hfz19_6
      try clear hfz19_7
      try clear hfz19_8
      try clear hfz19_9
      try clear hfz22_0
      try clear hfz22_1
      try clear hfz22_10
      try clear hfz22_11
      try clear hfz22_12
      try clear hfz22_13
      try clear hfz22_2
      try clear hfz22_3
      try clear hfz22_4
      try clear hfz22_5
      try clear hfz22_6
      try clear hfz22_7
      try clear hfz22_8
      try clear hfz22_9
      try clear hfz25_0
      try clear hfz25_1
      try clear hfz25_10
      try clear hfz25_11
      try clear hfz25_12
      try clear hfz25_13
      try clear hfz25_2
      try clear hfz25_3
      try clear hfz25_4
      try clear hfz25_5
      try clear hfz25_6
      try clear hfz25_7
      try clear hfz25_8
      try clear hfz25_9
      try clear hfz28_0
      try clear hfz28_1
      try clear hfz28_10
      try clear hfz28_11
      try clear hfz28_12
      try clear hfz28_13
      try clear hfz28_2
      try clear hfz28_3
      try clear hfz28_4
      try clear hfz28_5
      try clear hfz28_6
      try clear hfz28_7
      try clear hfz28_8
      try clear hfz28_9
      try clear hfz31_0
      try clear hfz31_1
      try clear hfz31_10
      try clear hfz31_11
      try clear hfz31_12
      try clear hfz31_13
      try clear hfz31_2
      try clear hfz31_3
      try clear hfz31_4
      try clear hfz31_5
      try clear hfz31_6
      try clear hfz31_7
      try clear hfz31_8
      try clear hfz31_9
      try clear hfz40_0
      try clear hfz40_1
      try clear hfz40_10
      try clear hfz40_11
      try clear hfz40_12
      try clear hfz40_13
      try clear hfz40_2
      try clear hfz40_3
      try clear hfz40_4
      try clear hfz40_5
      try clear hfz40_6
      try clear hfz40_7
      try clear hfz40_8
      try clear hfz40_9
      try clear hfz43_0
      try clear hfz43_1
      try clear hfz43_10
      try clear hfz43_11
      try clear hfz43_12
      try clear hfz43_13
      try clear hfz43_2
      try clear hfz43_3
      try clear hfz43_4
      try clear hfz43_5
      try clear hfz43_6
      try clear hfz43_7
      try clear hfz43_8
      try clear hfz43_9
      try clear hfz46_0
      try clear hfz46_1
      try clear hfz46_10
      try clear hfz46_11
      try clear hfz46_12
      try clear hfz46_13
      try clear hfz46_2
      try clear hfz46_3
      try clear hfz46_4
      try clear hfz46_5
      try clear hfz46_6
      try clear hfz46_7
      try clear hfz46_8
      try clear hfz46_9
      try clear hfz49_0
      try clear hfz49_1
      try clear hfz49_10
      try clear hfz49_11
      try clear hfz49_12
      try clear hfz49_13
      try clear hfz49_2
      try clear hfz49_3
      try clear hfz49_4
      try clear hfz49_5
      try clear hfz49_6
      try clear hfz49_7
      try clear hfz49_8
      try clear hfz49_9
      try clear hfz5_0
      try clear hfz5_1
      try clear hfz5_10
      try clear hfz5_11
      try clear hfz5_12
      try clear hfz5_13
      try clear hfz5_2
      try clear hfz5_3
      try clear hfz5_4
      try clear hfz5_5
      try clear hfz5_6
      try clear hfz5_7
      try clear hfz5_8
      try clear hfz5_9
      try clear hfz6_0
      try clear hfz6_1
      try clear hfz6_10
      try clear hfz6_11
      try clear hfz6_12
      try clear hfz6_13
      try clear hfz6_2
      try clear hfz6_3
      try clear hfz6_4
      try clear hfz6_5
      try clear hfz6_6
      try clear hfz6_7
      try clear hfz6_8
      try clear hfz6_9
      try clear p2
      obtain ⟨x4_3, x5_3, x68_3, rfl, rfl, HA, HK3, HO_5, BK180, HB⟩ := hrel
      cases gk with
      | zero => exact absurd HA.out (by simp [zam.l0])
      | succ k3 =>
       have H := HA.out
       clear HA
       simp only [zam.l0] at H
       by_cases c50 : x68_3 < (l0_9.length : Int)
       ·rw [if_pos c50] at H
        have c50b0 : decide (x68_3 < (l0_9.length : Int)) = true := decide_eq_true c50
        clear c50
        by_cases c51 : 0 ≤ x68_3
        ·rw [if_pos c51] at H
         have c51b0 : decide (0 ≤ x68_3) = true := decide_eq_true c51
         clear c51
         by_cases c52 : x68_3 < (l0_9.length : Int)
         ·rw [if_pos c52] at H
          have c52b0 : decide (x68_3 < (l0_9.length : Int)) = true := decide_eq_true c52
          clear c52
          replace H := Option.bind_eq_some_iff.mp H
          obtain ⟨⟨t216, t219⟩, A530, H⟩ := H
          replace H : (if x4_3 = true then ((zal.f k3 x5_3 (t216.length : Int)).bind fun t220 => (if t220.length + t216.length < 140737488355328 then (zam.l0 k3 t219 (t220 ++ t216) l0_9 (l0_9.length : Int) (wrap64 (x68_3 + 1)) a0_0 a0_1 a0_2 a0_3 a0_4 a0_5 a0_6 a0_7 a0_8 l0_9 a0_10 a0_11 l0_12 a0_13) else (none))) else ((zal.f k3 x5_3 (t216.length : Int)).bind fun t226 => (if t226.length + t216.length < 140737488355328 then (zam.l0 k3 false (t226 ++ t216) l0_9 (l0_9.length : Int) (wrap64 (x68_3 + 1)) a0_0 a0_1 a0_2 a0_3 a0_4 a0_5 a0_6 a0_7 a0_8 l0_9 a0_10 a0_11 l0_12 a0_13) else (none)))) = some (r1, r2) := H
          have A53 := Aside0.mk A530
          clear A530
          by_cases c54 : x4_3 = true
          ·subst c54
           have H1 : ((zal.f k3 x5_3 (t216.length : Int)).bind fun t220 => (if t220.length + t216.length < 140737488355328 then (zam.l0 k3 t219 (t220 ++ t216) l0_9 (l0_9.length : Int) (wrap64 (x68_3 + 1)) a0_0 a0_1 a0_2 a0_3 a0_4 a0_5 a0_6 a0_7 a0_8 l0_9 a0_10 a0_11 l0_12 a0_13) else (none))) = some (r1, r2) := by rw [if_pos rfl] at H; exact H
           clear H
           have H := H1
           clear H1
           replace H := Option.bind_eq_some_iff.mp H
           obtain ⟨t220, A550, H⟩ := H
           replace H : (if t220.length + t216.length < 140737488355328 then (zam.l0 k3 t219 (t220 ++ t216) l0_9 (l0_9.length : Int) (wrap64 (x68_3 + 1)) a0_0 a0_1 a0_2 a0_3 a0_4 a0_5 a0_6 a0_7 a0_8 l0_9 a0_10 a0_11 l0_12 a0_13) else (none)) = some (r1, r2) := H
           have A55 := Aside0.mk A550
           clear A550
           by_cases c56 : t220.length + t216.length < 140737488355328
           ·rw [if_pos c56] at H
            have LMc56 := Aside0.mk c56
            clear c56
            obtain ⟨y223, hy223⟩ : ∃ y_ : List Int, y_ = (t220 ++ t216) := ⟨_, rfl⟩
            replace H : (zam.l0 k3 t219 y223 l0_9 (l0_9.length : Int) (wrap64 (x68_3 + 1)) a0_0 a0_1 a0_2 a0_3 a0_4 a0_5 a0_6 a0_7 a0_8 l0_9 a0_10 a0_11 l0_12 a0_13) = some (r1, r2) := by first | (rw [hy223]; with_reducible exact H) | (have H2_ := (Option.bind_some _ _).symm.trans H; rw [hy223]; with_reducible exact H2_) | (have H2_ := (Option.bind_some _ _).symm.trans H; with_reducible exact H2_) | with_reducible exact H | (rw [hy223]; exact H) | exact H
            have Ny223 := Aside0.mk hy223
            clear hy223
            have H' := Aside0.mk H
            clear H
            have p214 : 0 ≤ (x68_3 : Int) := of_decide_eq_true (by first | (with_reducible assumption) | assumption)
            have q214 : x68_3 < (l0_9.length : Int) := of_decide_eq_true (by first | (with_reducible assumption) | assumption)
            obtain ⟨ad214, A214_9, c214_9, A214_13, c214_13, e214, hx214_0, hx214_1, hx214_2, hx214_3, hx214_4, hx214_5, hx214_6, hx214_7, hx214_8, hx214_9, hx214_10, hx214_11, hx214_12, hx214_13, hl214_9, hi214_9, hl214_13, hi214_13⟩ := zjh HR0_9.out x68_3 p214 q214
            cases e214
            replace hx214_0 := (HB.out.cell (World.block_lt_of_cell? w _ hx214_0)).trans hx214_0
            replace hx214_1 := (HB.out.cell (World.block_lt_of_cell? w _ hx214_1)).trans hx214_1
            replace hx214_2 := (HB.out.cell (World.block_lt_of_cell? w _ hx214_2)).trans hx214_2
            replace hx214_3 := (HB.out.cell (World.block_lt_of_cell? w _ hx214_3)).trans hx214_3
            replace hx214_4 := (HB.out.cell (World.block_lt_of_cell? w _ hx214_4)).trans hx214_4
            replace hx214_5 := (HB.out.cell (World.block_lt_of_cell? w _ hx214_5)).trans hx214_5
            replace hx214_6 := (HB.out.cell (World.block_lt_of_cell? w _ hx214_6)).trans hx214_6
            replace hx214_7 := (HB.out.cell (World.block_lt_of_cell? w _ hx214_7)).trans hx214_7
            replace hx214_8 := (HB.out.cell (World.block_lt_of_cell? w _ hx214_8)).trans hx214_8
            replace hx214_9 := (HB.out.cell (World.block_lt_of_cell? w _ hx214_9)).trans hx214_9
            replace hx214_10 := (HB.out.cell (World.block_lt_of_cell? w _ hx214_10)).trans hx214_10
            replace hx214_11 := (HB.out.cell (World.block_lt_of_cell? w _ hx214_11)).trans hx214_11
            replace hx214_12 := (HB.out.cell (World.block_lt_of_cell? w _ hx214_12)).trans hx214_12
            replace hx214_13 := (HB.out.cell (World.block_lt_of_cell? w _ hx214_13)).trans hx214_13
            have HR214_9 := Aside0.mk hi214_9
            have HC214_9 := Aside0.mk hl214_9
            clear hi214_9 hl214_9
            have HR214_13 := Aside0.mk hi214_13
            have HC214_13 := Aside0.mk hl214_13
            clear hi214_13 hl214_13
            replace p214 := eq_true p214
            replace q214 := eq_true q214
            go_wp2_with (first | ((with_reducible refine zcr (N := 7) rfl ?_); refine zcm ?hg (N := 7) ?hd (cs := #[.int .i64 0, .int .i64 0, .int .i64 0, .string ⟨#[]⟩, .string ⟨#[]⟩, .string ⟨#[]⟩, .string ⟨#[]⟩, .string ⟨#[]⟩, .string ⟨#[]⟩, .slice none 0 0, .int .i64 0, .int .i64 0, .int .i64 0, .slice none 0 0]) (t := 38) ?hr ?_; (case hd => rfl); (case hg => rfl); (case hr => first | (go_simp; done) | (go_simp; rfl)); intro gb215 hg w57 hbox hb; have n0_ := Aside0.mk (Kd.zcq (by (with_reducible repeat (first | apply Kd.zbb | apply Kd.zba | apply Kd.zbf)); exact HO_5.out) hb); have n1_ := Aside0.mk (zbn (g := gb180) (o := .cells #[.int .i64 a0_0, .int .i64 a0_1, .int .i64 a0_2, .int .i64 a0_3, .int .i64 a0_4, .int .i64 a0_5, .bool a0_6, .int .i64 a0_7, .int .i64 a0_8, .slice (some ad214) l0_9.length c0_9, .int .i64 a0_10, .int .i64 a0_11, .slice A0_12 l0_12.length c0_12, .string a0_13] 66 (0, 0)) (by (with_reducible repeat (first | refine zag ?_ _ | refine zai ?_ | refine zaf ?_ _)); exact BK180.out) hb); have n2_ := Aside0.mk (zbl (by repeat (first | (with_reducible first | exact HB.out | apply zad | apply zac | apply zae | refine zah ?_ GE180.out) | exact HB.out)) hb); have n3_ := Aside0.mk (hbox); have n4_ := Aside0.mk ((by rw [hg]; exact (zaz (by repeat (first | (with_reducible first | exact HB.out | apply zad | apply zac | apply zae | refine zah ?_ GE180.out) | exact HB.out))) : w.heap.size ≤ gb215)); have n5_ := Aside0.mk ((by rw [hg]; exact (zaz (by repeat (first | (with_reducible first | exact HB.out | apply zad | apply zac | apply zae | refine zah ?_ GE180.out) | exact HB.out))) : w.heap.size ≤ gb215)); have n6_ := Aside0.mk ((by rw [hg]; exact Nat.ne_of_lt (zdp (g := gb180) (o := .cells #[.int .i64 a0_0, .int .i64 a0_1, .int .i64 a0_2, .int .i64 a0_3, .int .i64 a0_4, .int .i64 a0_5, .bool a0_6, .int .i64 a0_7, .int .i64 a0_8, .slice (some ad214) l0_9.length c0_9, .int .i64 a0_10, .int .i64 a0_11, .slice A0_12 l0_12.length c0_12, .string a0_13] 66 (0, 0)) (by (with_reducible repeat (first | refine zag ?_ _ | refine zai ?_ | refine zaf ?_ _)); exact BK180.out)) : gb180 ≠ gb215)); have n7_ := Aside0.mk ((by rw [hg]; exact Nat.ne_of_gt (zdp (g := gb180) (o := .cells #[.int .i64 a0_0, .int .i64 a0_1, .int .i64 a0_2, .int .i64 a0_3, .int .i64 a0_4, .int .i64 a0_5, .bool a0_6, .int .i64 a0_7, .int .i64 a0_8, .slice (some ad214) l0_9.length c0_9, .int .i64 a0_10, .int .i64 a0_11, .slice A0_12 l0_12.length c0_12, .string a0_13] 66 (0, 0)) (by (with_reducible repeat (first | refine zag ?_ _ | refine zai ?_ | refine zaf ?_ _)); exact BK180.out)) : gb215 ≠ gb180)); clear HO_5; clear BK180; clear HB; have HO_5 := n0_; have BK180 := n1_; have HB := n2_; have BK215 := n3_; have GW215 := n4_; have GE215 := n5_; have NB180_215 := n6_; have NB215_180 := n7_; clear n0_ n1_ n2_ n3_ n4_ n5_ n6_ n7_; clear hb hbox hg; have hnb58 := NB215_180.out; have hnc58 := NB180_215.out; have hcz59_0 : w57.cell? ⟨gb215, 0, none⟩ = some (.int .i64 0) := (zaa BK215.out 0).trans rfl; have hcz59_1 : w57.cell? ⟨gb215, 1, none⟩ = some (.int .i64 0) := (zaa BK215.out 1).trans rfl; have hcz59_2 : w57.cell? ⟨gb215, 2, none⟩ = some (.int .i64 0) := (zaa BK215.out 2).trans rfl; have hcz59_3 : w57.cell? ⟨gb215, 3, none⟩ = some (.string ⟨#[]⟩) := (zaa BK215.out 3).trans rfl; have hcz59_4 : w57.cell? ⟨gb215, 4, none⟩ = some (.string ⟨#[]⟩) := (zaa BK215.out 4).trans rfl; have hcz59_5 : w57.cell? ⟨gb215, 5, none⟩ = some (.string ⟨#[]⟩) := (zaa BK215.out 5).trans rfl; have hcz59_6 : w57.cell? ⟨gb215, 6, none⟩ = some (.string ⟨#[]⟩) := (zaa BK215.out 6).trans rfl; have hcz59_7 : w57.cell? ⟨gb215, 7, none⟩ = some (.string ⟨#[]⟩) := (zaa BK215.out 7).trans rfl; have hcz59_8 : w57.cell? ⟨gb215, 8, none⟩ = some (.string ⟨#[]⟩) := (zaa BK215.out 8).trans rfl; have hcz59_9 : w57.cell? ⟨gb215, 9, none⟩ = some (.slice none 0 0) := (zaa BK215.out 9).trans rfl; have hcz59_10 : w57.cell? ⟨gb215, 10, none⟩ = some (.int .i64 0) := (zaa BK215.out 10).trans rfl; have hcz59_11 : w57.cell? ⟨gb215, 11, none⟩ = some (.int .i64 0) := (zaa BK215.out 11).trans rfl; have hcz59_12 : w57.cell? ⟨gb215, 12, none⟩ = some (.int .i64 0) := (zaa BK215.out 12).trans rfl; have hcz59_13 : w57.cell? ⟨gb215, 13, none⟩ = some (.slice none 0 0) := (zaa BK215.out 13).trans rfl; have hfz59_0 := zab BK215.out 0; have hfz59_1 := zab BK215.out 1; have hfz59_2 := zab BK215.out 2; have hfz59_3 := zab BK215.out 3; have hfz59_4 := zab BK215.out 4; have hfz59_5 := zab BK215.out 5; have hfz59_6 := zab BK215.out 6; have hfz59_7 := zab BK215.out 7; have hfz59_8 := zab BK215.out 8; have hfz59_9 := zab BK215.out 9; have hfz59_10 := zab BK215.out 10; have hfz59_11 := zab BK215.out 11; have hfz59_12 := zab BK215.out 12; have hfz59_13 := zab BK215.out 13) | ((with_reducible refine zbe (f := 24) rfl ?_); refine zcg (some 74) rfl rfl Try.func24 (by kernel_rfl) rfl #[.agg #[.int .i64 ((zak l0_9 x68_3).f0), .int .i64 ((zak l0_9 x68_3).f1), .int .i64 ((zak l0_9 x68_3).f2.f0), .string ((zak l0_9 x68_3).f2.f1), .string ((zak l0_9 x68_3).f2.f2), .string ((zak l0_9 x68_3).f2.f3), .string ((zak l0_9 x68_3).f2.f4), .string ((zak l0_9 x68_3).f2.f5), .string ((zak l0_9 x68_3).f2.f6), .slice A214_9 ((zak l0_9 x68_3).f2.f7).length c214_9, .int .i64 ((zak l0_9 x68_3).f2.f8), .int .i64 ((zak l0_9 x68_3).f2.f9), .int .i64 ((zak l0_9 x68_3).f2.f10), .slice A214_13 ((zak l0_9 x68_3).f3).length c214_13]] rfl (by (try simp only [List.map_toArray, List.map_cons, List.map_nil]); first | done | rfl | (simp only [List.length_drop, List.length_take]; rfl)) ?_; (with_reducible refine (zaq.calls k3 ((zak l0_9 x68_3).f0) ((zak l0_9 x68_3).f1) ((zak l0_9 x68_3).f2.f0) ((zak l0_9 x68_3).f2.f1) ((zak l0_9 x68_3).f2.f2) ((zak l0_9 x68_3).f2.f3) ((zak l0_9 x68_3).f2.f4) ((zak l0_9 x68_3).f2.f5) ((zak l0_9 x68_3).f2.f6) _ _ ((zak l0_9 x68_3).f2.f7) ((zak l0_9 x68_3).f2.f8) ((zak l0_9 x68_3).f2.f9) ((zak l0_9 x68_3).f2.f10) _ _ ((zak l0_9 x68_3).f3) t216 t219 _ ?side1 ?side2 ?side3 ?side4 A53.out).mono ?_); (case side1 => exact Kd.zci HR214_9.out (by repeat (first | (with_reducible first | exact HB.out | apply zad | apply zac | apply zae | refine zah ?_ GE180.out | refine zah ?_ GE215.out) | exact HB.out))); (case side2 => exact HC214_9.out); (case side3 => exact Kd.zci HR214_13.out (by repeat (first | (with_reducible first | exact HB.out | apply zad | apply zac | apply zae | refine zah ?_ GE180.out | refine zah ?_ GE215.out) | exact HB.out))); (case side4 => exact HC214_13.out); rintro e w60 ⟨v217, rfl, ho0, hb⟩; refine ⟨_, rfl, ?_⟩; have n0_ := Aside0.mk (Kd.zez (by (with_reducible repeat (first | apply Kd.zbb | apply Kd.zba | apply Kd.zbf)); exact (Kd.zbh (Kd.zbk (p := ⟨gb215, 13, none⟩) (Kd.zbk (p := ⟨gb215, 12, none⟩) (Kd.zbk (p := ⟨gb215, 11, none⟩) (Kd.zbk (p := ⟨gb215, 10, none⟩) (Kd.zbk (p := ⟨gb215, 9, none⟩) (Kd.zbk (p := ⟨gb215, 8, none⟩) (Kd.zbk (p := ⟨gb215, 7, none⟩) (Kd.zbk (p := ⟨gb215, 6, none⟩) (Kd.zbk (p := ⟨gb215, 5, none⟩) (Kd.zbk (p := ⟨gb215, 4, none⟩) (Kd.zbk (p := ⟨gb215, 3, none⟩) (Kd.zbk (p := ⟨gb215, 2, none⟩) (Kd.zbk (p := ⟨gb215, 1, none⟩) (Kd.zbk (p := ⟨gb215, 0, none⟩) (Kd.zco HO_5.out BK215.out (by decide)) (fun _ hk => hk.2) (.int .i64 ((zak l0_9 x68_3).f0))) (fun _ hk => hk.2) (.int .i64 ((zak l0_9 x68_3).f1))) (fun _ hk => hk.2) (.int .i64 ((zak l0_9 x68_3).f2.f0))) (fun _ hk => hk.2) (.string ((zak l0_9 x68_3).f2.f1))) (fun _ hk => hk.2) (.string ((zak l0_9 x68_3).f2.f2))) (fun _ hk => hk.2) (.string ((zak l0_9 x68_3).f2.f3))) (fun _ hk => hk.2) (.string ((zak l0_9 x68_3).f2.f4))) (fun _ hk => hk.2) (.string ((zak l0_9 x68_3).f2.f5))) (fun _ hk => hk.2) (.string ((zak l0_9 x68_3).f2.f6))) (fun _ hk => hk.2) (.slice A214_9 ((zak l0_9 x68_3).f2.f7).length c214_9)) (fun _ hk => hk.2) (.int .i64 ((zak l0_9 x68_3).f2.f8))) (fun _ hk => hk.2) (.int .i64 ((zak l0_9 x68_3).f2.f9))) (fun _ hk => hk.2) (.int .i64 ((zak l0_9 x68_3).f2.f10))) (fun _ hk => hk.2) (.slice A214_13 ((zak l0_9 x68_3).f3).length c214_13)) (fun _ h_ => h_.1))) (Kd.zhg ho0) hb); have n1_ := Aside0.mk (Kd.zdn (Kd.zhf ho0 (Kd.R_lt (by (with_reducible repeat (first | apply Kd.zbb | apply Kd.zba | apply Kd.zbf)); exact (Kd.zbh (Kd.zbk (p := ⟨gb215, 13, none⟩) (Kd.zbk (p := ⟨gb215, 12, none⟩) (Kd.zbk (p := ⟨gb215, 11, none⟩) (Kd.zbk (p := ⟨gb215, 10, none⟩) (Kd.zbk (p := ⟨gb215, 9, none⟩) (Kd.zbk (p := ⟨gb215, 8, none⟩) (Kd.zbk (p := ⟨gb215, 7, none⟩) (Kd.zbk (p := ⟨gb215, 6, none⟩) (Kd.zbk (p := ⟨gb215, 5, none⟩) (Kd.zbk (p := ⟨gb215, 4, none⟩) (Kd.zbk (p := ⟨gb215, 3, none⟩) (Kd.zbk (p := ⟨gb215, 2, none⟩) (Kd.zbk (p := ⟨gb215, 1, none⟩) (Kd.zbk (p := ⟨gb215, 0, none⟩) (Kd.zco HO_5.out BK215.out (by decide)) (fun _ hk => hk.2) (.int .i64 ((zak l0_9 x68_3).f0))) (fun _ hk => hk.2) (.int .i64 ((zak l0_9 x68_3).f1))) (fun _ hk => hk.2) (.int .i64 ((zak l0_9 x68_3).f2.f0))) (fun _ hk => hk.2) (.string ((zak l0_9 x68_3).f2.f1))) (fun _ hk => hk.2) (.string ((zak l0_9 x68_3).f2.f2))) (fun _ hk => hk.2) (.string ((zak l0_9 x68_3).f2.f3))) (fun _ hk => hk.2) (.string ((zak l0_9 x68_3).f2.f4))) (fun _ hk => hk.2) (.string ((zak l0_9 x68_3).f2.f5))) (fun _ hk => hk.2) (.string ((zak l0_9 x68_3).f2.f6))) (fun _ hk => hk.2) (.slice A214_9 ((zak l0_9 x68_3).f2.f7).length c214_9)) (fun _ hk => hk.2) (.int .i64 ((zak l0_9 x68_3).f2.f8))) (fun _ hk => hk.2) (.int .i64 ((zak l0_9 x68_3).f2.f9))) (fun _ hk => hk.2) (.int .i64 ((zak l0_9 x68_3).f2.f10))) (fun _ hk => hk.2) (.slice A214_13 ((zak l0_9 x68_3).f3).length c214_13)) (fun _ h_ => h_.1))))) (zaz (by repeat (first | (with_reducible first | exact HB.out | apply zad | apply zac | apply zae | refine zah ?_ GE180.out | refine zah ?_ GE215.out) | exact HB.out)))); have n2_ := Aside0.mk (zbn (g := gb180) (o := .cells #[.int .i64 a0_0, .int .i64 a0_1, .int .i64 a0_2, .int .i64 a0_3, .int .i64 a0_4, .int .i64 a0_5, .bool a0_6, .int .i64 a0_7, .int .i64 a0_8, .slice (some ad214) l0_9.length c0_9, .int .i64 a0_10, .int .i64 a0_11, .slice A0_12 l0_12.length c0_12, .string a0_13] 66 (0, 0)) (by (with_reducible repeat (first | refine zag ?_ _ | refine zai ?_ | refine zaf ?_ _)); refine zbi ?_ NB180_215.out _; (with_reducible repeat (first | refine zag ?_ _ | refine zai ?_ | refine zaf ?_ _)); refine zbi ?_ NB180_215.out _; (with_reducible repeat (first | refine zag ?_ _ | refine zai ?_ | refine zaf ?_ _)); refine zbi ?_ NB180_215.out _; (with_reducible repeat (first | refine zag ?_ _ | refine zai ?_ | refine zaf ?_ _)); refine zbi ?_ NB180_215.out _; (with_reducible repeat (first | refine zag ?_ _ | refine zai ?_ | refine zaf ?_ _)); refine zbi ?_ NB180_215.out _; (with_reducible repeat (first | refine zag ?_ _ | refine zai ?_ | refine zaf ?_ _)); refine zbi ?_ NB180_215.out _; (with_reducible repeat (first | refine zag ?_ _ | refine zai ?_ | refine zaf ?_ _)); refine zbi ?_ NB180_215.out _; (with_reducible repeat (first | refine zag ?_ _ | refine zai ?_ | refine zaf ?_ _)); refine zbi ?_ NB180_215.out _; (with_reducible repeat (first | refine zag ?_ _ | refine zai ?_ | refine zaf ?_ _)); refine zbi ?_ NB180_215.out _; (with_reducible repeat (first | refine zag ?_ _ | refine zai ?_ | refine zaf ?_ _)); refine zbi ?_ NB180_215.out _; (with_reducible repeat (first | refine zag ?_ _ | refine zai ?_ | refine zaf ?_ _)); refine zbi ?_ NB180_215.out _; (with_reducible repeat (first | refine zag ?_ _ | refine zai ?_ | refine zaf ?_ _)); refine zbi ?_ NB180_215.out _; (with_reducible repeat (first | refine zag ?_ _ | refine zai ?_ | refine zaf ?_ _)); refine zbi ?_ NB180_215.out _; (with_reducible repeat (first | refine zag ?_ _ | refine zai ?_ | refine zaf ?_ _)); refine zbi ?_ NB180_215.out _; (with_reducible repeat (first | refine zag ?_ _ | refine zai ?_ | refine zaf ?_ _)); exact BK180.out) hb); have n3_ := Aside0.mk (zbn (g := gb215) (o := .cells #[.int .i64 ((zak l0_9 x68_3).f0), .int .i64 ((zak l0_9 x68_3).f1), .int .i64 ((zak l0_9 x68_3).f2.f0), .string ((zak l0_9 x68_3).f2.f1), .string ((zak l0_9 x68_3).f2.f2), .string ((zak l0_9 x68_3).f2.f3), .string ((zak l0_9 x68_3).f2.f4), .string ((zak l0_9 x68_3).f2.f5), .string ((zak l0_9 x68_3).f2.f6), .slice A214_9 ((zak l0_9 x68_3).f2.f7).length c214_9, .int .i64 ((zak l0_9 x68_3).f2.f8), .int .i64 ((zak l0_9 x68_3).f2.f9), .int .i64 ((zak l0_9 x68_3).f2.f10), .slice A214_13 ((zak l0_9 x68_3).f3).length c214_13] 38 (0, 0)) (by (with_reducible repeat (first | refine zag ?_ _ | refine zai ?_ | refine zaf ?_ _)); refine zbd (cs := #[.int .i64 ((zak l0_9 x68_3).f0), .int .i64 ((zak l0_9 x68_3).f1), .int .i64 ((zak l0_9 x68_3).f2.f0), .string ((zak l0_9 x68_3).f2.f1), .string ((zak l0_9 x68_3).f2.f2), .string ((zak l0_9 x68_3).f2.f3), .string ((zak l0_9 x68_3).f2.f4), .string ((zak l0_9 x68_3).f2.f5), .string ((zak l0_9 x68_3).f2.f6), .slice A214_9 ((zak l0_9 x68_3).f2.f7).length c214_9, .int .i64 ((zak l0_9 x68_3).f2.f8), .int .i64 ((zak l0_9 x68_3).f2.f9), .int .i64 ((zak l0_9 x68_3).f2.f10), .slice none 0 0]) ?_ 13 _ rfl; (with_reducible repeat (first | refine zag ?_ _ | refine zai ?_ | refine zaf ?_ _)); refine zbd (cs := #[.int .i64 ((zak l0_9 x68_3).f0), .int .i64 ((zak l0_9 x68_3).f1), .int .i64 ((zak l0_9 x68_3).f2.f0), .string ((zak l0_9 x68_3).f2.f1), .string ((zak l0_9 x68_3).f2.f2), .string ((zak l0_9 x68_3).f2.f3), .string ((zak l0_9 x68_3).f2.f4), .string ((zak l0_9 x68_3).f2.f5), .string ((zak l0_9 x68_3).f2.f6), .slice A214_9 ((zak l0_9 x68_3).f2.f7).length c214_9, .int .i64 ((zak l0_9 x68_3).f2.f8), .int .i64 ((zak l0_9 x68_3).f2.f9), .int .i64 0, .slice none 0 0]) ?_ 12 _ rfl; (with_reducible repeat (first | refine zag ?_ _ | refine zai ?_ | refine zaf ?_ _)); refine zbd (cs := #[.int .i64 ((zak l0_9 x68_3).f0), .int .i64 ((zak l0_9 x68_3).f1), .int .i64 ((zak l0_9 x68_3).f2.f0), .string ((zak l0_9 x68_3).f2.f1), .string ((zak l0_9 x68_3).f2.f2), .string ((zak l0_9 x68_3).f2.f3), .string ((zak l0_9 x68_3).f2.f4), .string ((zak l0_9 x68_3).f2.f5), .string ((zak l0_9 x68_3).f2.f6), .slice A214_9 ((zak l0_9 x68_3).f2.f7).length c214_9, .int .i64 ((zak l0_9 x68_3).f2.f8), .int .i64 0, .int .i64 0, .slice none 0 0]) ?_ 11 _ rfl; (with_reducible repeat (first | refine zag ?_ _ | refine zai ?_ | refine zaf ?_ _)); refine zbd (cs := #[.int .i64 ((zak l0_9 x68_3).f0), .int .i64 ((zak l0_9 x68_3).f1), .int .i64 ((zak l0_9 x68_3).f2.f0), .string ((zak l0_9 x68_3).f2.f1), .string ((zak l0_9 x68_3).f2.f2), .string ((zak l0_9 x68_3).f2.f3), .string ((zak l0_9 x68_3).f2.f4), .string ((zak l0_9 x68_3).f2.f5), .string ((zak l0_9 x68_3).f2.f6), .slice A214_9 ((zak l0_9 x68_3).f2.f7).length c214_9, .int .i64 0, .int .i64 0, .int .i64 0, .slice none 0 0]) ?_ 10 _ rfl; (with_reducible repeat (first | refine zag ?_ _ | refine zai ?_ | refine zaf ?_ _)); refine zbd (cs := #[.int .i64 ((zak l0_9 x68_3).f0), .int .i64 ((zak l0_9 x68_3).f1), .int .i64 ((zak l0_9 x68_3).f2.f0), .string ((zak l0_9 x68_3).f2.f1), .string ((zak l0_9 x68_3).f2.f2), .string ((zak l0_9 x68_3).f2.f3), .string ((zak l0_9 x68_3).f2.f4), .string ((zak l0_9 x68_3).f2.f5), .string ((zak l0_9 x68_3).f2.f6), .slice none 0 0, .int .i64 0, .int .i64 0, .int .i64 0, .slice none 0 0]) ?_ 9 _ rfl; (with_reducible repeat (first | refine zag ?_ _ | refine zai ?_ | refine zaf ?_ _)); refine zbd (cs := #[.int .i64 ((zak l0_9 x68_3).f0), .int .i64 ((zak l0_9 x68_3).f1), .int .i64 ((zak l0_9 x68_3).f2.f0), .string ((zak l0_9 x68_3).f2.f1), .string ((zak l0_9 x68_3).f2.f2), .string ((zak l0_9 x68_3).f2.f3), .string ((zak l0_9 x68_3).f2.f4), .string ((zak l0_9 x68_3).f2.f5), .string ⟨#[]⟩, .slice none 0 0, .int .i64 0, .int .i64 0, .int .i64 0, .slice none 0 0]) ?_ 8 _ rfl; (with_reducible repeat (first | refine zag ?_ _ | refine zai ?_ | refine zaf ?_ _)); refine zbd (cs := #[.int .i64 ((zak l0_9 x68_3).f0), .int .i64 ((zak l0_9 x68_3).f1), .int .i64 ((zak l0_9 x68_3).f2.f0), .string ((zak l0_9 x68_3).f2.f1), .string ((zak l0_9 x68_3).f2.f2), .string ((zak l0_9 x68_3).f2.f3), .string ((zak l0_9 x68_3).f2.f4), .string ⟨#[]⟩, .string ⟨#[]⟩, .slice none 0 0, .int .i64 0, .int .i64 0, .int .i64 0, .slice none 0 0]) ?_ 7 _ rfl; (with_reducible repeat (first | refine zag ?_ _ | refine zai ?_ | refine zaf ?_ _)); refine zbd (cs := #[.int .i64 ((zak l0_9 x68_3).f0), .int .i64 ((zak l0_9 x68_3).f1), .int .i64 ((zak l0_9 x68_3).f2.f0), .string ((zak l0_9 x68_3).f2.f1), .string ((zak l0_9 x68_3).f2.f2), .string ((zak l0_9 x68_3).f2.f3), .string ⟨#[]⟩, .string ⟨#[]⟩, .string ⟨#[]⟩, .slice none 0 0, .int .i64 0, .int .i64 0, .int .i64 0, .slice none 0 0]) ?_ 6 _ rfl; (with_reducible repeat (first | refine zag ?_ _ | refine zai ?_ | refine zaf ?_ _)); refine zbd (cs := #[.int .i64 ((zak l0_9 x68_3).f0), .int .i64 ((zak l0_9 x68_3).f1), .int .i64 ((zak l0_9 x68_3).f2.f0), .string ((zak l0_9 x68_3).f2.f1), .string ((zak l0_9 x68_3).f2.f2), .string ⟨#[]⟩, .string ⟨#[]⟩, .string ⟨#[]⟩, .string ⟨#[]⟩, .slice none 0 0, .int .i64 0, .int .i64 0, .int .i64 0, .slice none 0 0]) ?_ 5 _ rfl; (with_reducible repeat (first | refine zag ?_ _ | refine zai ?_ | refine zaf ?_ _)); refine zbd (cs := #[.int .i64 ((zak l0_9 x68_3).f0), .int .i64 ((zak l0_9 x68_3).f1), .int .i64 ((zak l0_9 x68_3).f2.f0), .string ((zak l0_9 x68_3).f2.f1), .string ⟨#[]⟩, .string ⟨#[]⟩, .string ⟨#[]⟩, .string ⟨#[]⟩, .string ⟨#[]⟩, .slice none 0 0, .int .i64 0, .int .i64 0, .int .i64 0, .slice none 0 0]) ?_ 4 _ rfl; (with_reducible repeat (first | refine zag ?_ _ | refine zai ?_ | refine zaf ?_ _)); refine zbd (cs := #[.int .i64 ((zak l0_9 x68_3).f0), .int .i64 ((zak l0_9 x68_3).f1), .int .i64 ((zak l0_9 x68_3).f2.f0), .string ⟨#[]⟩, .string ⟨#[]⟩, .string ⟨#[]⟩, .string ⟨#[]⟩, .string ⟨#[]⟩, .string ⟨#[]⟩, .slice none 0 0, .int .i64 0, .int .i64 0, .int .i64 0, .slice none 0 0]) ?_ 3 _ rfl; (with_reducible repeat (first | refine zag ?_ _ | refine zai ?_ | refine zaf ?_ _)); refine zbd (cs := #[.int .i64 ((zak l0_9 x68_3).f0), .int .i64 ((zak l0_9 x68_3).f1), .int .i64 0, .string ⟨#[]⟩, .string ⟨#[]⟩, .string ⟨#[]⟩, .string ⟨#[]⟩, .string ⟨#[]⟩, .string ⟨#[]⟩, .slice none 0 0, .int .i64 0, .int .i64 0, .int .i64 0, .slice none 0 0]) ?_ 2 _ rfl; (with_reducible repeat (first | refine zag ?_ _ | refine zai ?_ | refine zaf ?_ _)); refine zbd (cs := #[.int .i64 ((zak l0_9 x68_3).f0), .int .i64 0, .int .i64 0, .string ⟨#[]⟩, .string ⟨#[]⟩, .string ⟨#[]⟩, .string ⟨#[]⟩, .string ⟨#[]⟩, .string ⟨#[]⟩, .slice none 0 0, .int .i64 0, .int .i64 0, .int .i64 0, .slice none 0 0]) ?_ 1 _ rfl; (with_reducible repeat (first | refine zag ?_ _ | refine zai ?_ | refine zaf ?_ _)); refine zbd (cs := #[.int .i64 0, .int .i64 0, .int .i64 0, .string ⟨#[]⟩, .string ⟨#[]⟩, .string ⟨#[]⟩, .string ⟨#[]⟩, .string ⟨#[]⟩, .string ⟨#[]⟩, .slice none 0 0, .int .i64 0, .int .i64 0, .int .i64 0, .slice none 0 0]) ?_ 0 _ rfl; (with_reducible repeat (first | refine zag ?_ _ | refine zai ?_ | refine zaf ?_ _)); exact BK215.out) hb); have n4_ := Aside0.mk (zbl (by repeat (first | (with_reducible first | exact HB.out | apply zad | apply zac | apply zae | refine zah ?_ GE180.out | refine zah ?_ GE215.out) | exact HB.out)) hb); clear HO_5; clear BK180; clear BK215; clear HB; have HO_5 := n0_; have HO218 := n1_; have BK180 := n2_; have BK215 := n3_; have HB := n4_; clear n0_ n1_ n2_ n3_ n4_; (try clear hb); (try clear hb2); (try clear hk); (try clear hi); (try clear ho0); obtain ⟨Ao61, co61, eo61⟩ := Kd.zbu HO218.out; subst eo61; obtain ⟨Ao62, co62, eo62⟩ := Kd.zbu HO_5.out; subst eo62) | ((with_reducible refine zbe (f := 55) rfl ?_); refine zcg (some 84) rfl rfl Try.func55 (by kernel_rfl) rfl #[.slice Ao62 x5_3.length co62, .int .i64 (t216.length : Int)] rfl (by (try simp only [List.map_toArray, List.map_cons, List.map_nil]); first | done | rfl | (simp only [List.length_drop, List.length_take]; rfl)) ?_; (with_reducible refine (zal.calls k3 (fun k_ => some k_ = (.slice Ao62 x5_3.length co62 : Value).ownBlock) (.slice Ao62 x5_3.length co62) x5_3 (t216.length : Int) t220 w _ ?side1 ?side2 A55.out).mono ?_); (case side1 => repeat (first | (with_reducible first | exact HB.out | apply zad | apply zac | apply zae | refine zah ?_ GE180.out | refine zah ?_ GE215.out) | exact HB.out)); (case side2 => exact Kd.zct rfl HO_5.out); rintro e w63 ⟨v221, rfl, ho0, hb, hkp⟩; refine ⟨_, rfl, ?_⟩; have n0_ := Aside0.mk (zbr (by (with_reducible repeat (first | refine zag ?_ _ | refine zai ?_ | refine zaf ?_ _)); exact BK180.out) hkp (fun hs_ => (fun e_ => (Kd.R_ne HO_5.out BK180.out (by decide)) e_) hs_)); have n1_ := Aside0.mk (zbr (by (with_reducible repeat (first | refine zag ?_ _ | refine zai ?_ | refine zaf ?_ _)); exact BK215.out) hkp (fun hs_ => (fun e_ => (Kd.R_ne HO_5.out BK215.out (by decide)) e_) hs_)); have n2_ := Aside0.mk (Kd.zbh (ok' := fun k_ => some k_ ≠ (v221 : Value).ownBlock) (Kd.zgg (HO218.out) hkp (fun k_ hk_ hs_ => (hk_.2) hs_)) (fun k_ hk_ => fun e_ => Or.elim (ho0.1 k_ e_.symm) (fun hs_ => hk_.2.1 hs_) (fun hn_ => Nat.not_le.2 hk_.2.2 hn_))); have n3_ := Aside0.mk (Kd.zbh (ok' := fun k_ => some k_ ≠ (.slice Ao61 t216.length co61 : Value).ownBlock) ho0 (fun k_ hk_ => Or.elim hk_ (fun hs_ => fun e_ => (((HO218.out).1 k_ e_.symm).2) hs_) (fun hn_ => (Kd.fresh' (Kd.R_lt (by (with_reducible repeat (first | apply Kd.zbb | apply Kd.zba | apply Kd.zbf)); exact HO218.out)) k_ hn_)))); have n4_ := Aside0.mk (hb); clear BK180; clear BK215; clear HO218; clear HB; clear HO_5; have BK180 := n0_; have BK215 := n1_; have HO218 := n2_; have HO222 := n3_; have HB := n4_; clear n0_ n1_ n2_ n3_ n4_; (try clear hb); (try clear hkp); (try clear ho0)) | ((with_reducible refine zcd (b := .append) (xs := #[.tmp 85, .tmp 86]) rfl ?_); at_builtin; refine Kd.R_append_rows (Kd.int .u8) (w0 := w) w.heap.size rfl (.tmp 85) (.tmp 86) 27 5 (.int .u8 0) 1 rfl Try.underlying27 info5 rfl (by decide) (by omega) v221 t220 t216 _ _ _ (fun k_ => some k_ ≠ (.slice Ao61 t216.length co61 : Value).ownBlock) (fun _ => False) rfl rfl ?aO ?aR (fun _ _ h => h) (fun _ h => h.elim) ?aF ?aB ?aS ?aL ?_; (case aR => repeat (first | exact (Kd.zed HO218.out).2.2 | (with_reducible refine Kd.zev ?_ _) | (with_reducible refine Kd.zeu ?_ _) | (with_reducible refine Kd.zfw ?_))); (case aB => exact (by repeat (first | (with_reducible first | exact HB.out | apply zad | apply zac | apply zae | refine zah ?_ GE180.out | refine zah ?_ GE215.out) | exact HB.out))); (case aF => exact (fun k_ hk => Kd.fresh' (Kd.R_lt (by (with_reducible repeat (first | apply Kd.zbb | apply Kd.zba | apply Kd.zbf)); exact HO218.out)) k_ hk)); (case aO => exact (by (with_reducible repeat (first | apply Kd.zbb | apply Kd.zba | apply Kd.zbf)); exact HO222.out)); (case aS => exact (zaz (by repeat (first | (with_reducible first | exact HB.out | apply zad | apply zac | apply zae | refine zah ?_ GE180.out | refine zah ?_ GE215.out) | exact HB.out)))); (case aL => have := LMc56.out; omega); intro v224 w64 ho hb hg hat; rw [← Ny223.out] at ho; have n0_ := Aside0.mk (zbm (g := gb180) (o := .cells #[.int .i64 a0_0, .int .i64 a0_1, .int .i64 a0_2, .int .i64 a0_3, .int .i64 a0_4, .int .i64 a0_5, .bool a0_6, .int .i64 a0_7, .int .i64 a0_8, .slice (some ad214) l0_9.length c0_9, .int .i64 a0_10, .int .i64 a0_11, .slice A0_12 l0_12.length c0_12, .string a0_13] 66 (0, 0)) (by (with_reducible repeat (first | refine zag ?_ _ | refine zai ?_ | refine zaf ?_ _)); exact BK180.out) hg (Kd.R_ne HO222.out BK180.out (by decide))); have n1_ := Aside0.mk (zbm (g := gb215) (o := .cells #[.int .i64 ((zak l0_9 x68_3).f0), .int .i64 ((zak l0_9 x68_3).f1), .int .i64 ((zak l0_9 x68_3).f2.f0), .string ((zak l0_9 x68_3).f2.f1), .string ((zak l0_9 x68_3).f2.f2), .string ((zak l0_9 x68_3).f2.f3), .string ((zak l0_9 x68_3).f2.f4), .string ((zak l0_9 x68_3).f2.f5), .string ((zak l0_9 x68_3).f2.f6), .slice A214_9 ((zak l0_9 x68_3).f2.f7).length c214_9, .int .i64 ((zak l0_9 x68_3).f2.f8), .int .i64 ((zak l0_9 x68_3).f2.f9), .int .i64 ((zak l0_9 x68_3).f2.f10), .slice A214_13 ((zak l0_9 x68_3).f3).length c214_13] 38 (0, 0)) (by (with_reducible repeat (first | refine zag ?_ _ | refine zai ?_ | refine zaf ?_ _)); exact BK215.out) hg (Kd.R_ne HO222.out BK215.out (by decide))); have n2_ := Aside0.mk (Kd.zfu (ok := (fun _ => True)) (by (with_reducible repeat (first | apply Kd.zbb | apply Kd.zba | apply Kd.zbf)); exact Kd.zbh HO218.out (fun _ hk => ⟨trivial, hk⟩)) hg hat); have n3_ := Aside0.mk (hb); have n4_ := Aside0.mk (ho); clear BK180; clear BK215; clear HO218; clear HB; clear HO222; have BK180 := n0_; have BK215 := n1_; have HO218 := n2_; have HB := n3_; have HO225 := n4_; clear n0_ n1_ n2_ n3_ n4_; clear ho hb hg hat))
            go_roundg k3
            case measure => have := HJ1.out; have := HJ11.out; have := HK3.out; omega
            case rel => exact ⟨(t219), (y223), (wrap64 (x68_3 + 1)), (by first | rfl | (simp; done) | (simp [*]; done)), (by first | rfl | (simp; done) | (simp [*]; done)), H', ⟨by have := HJ1.out; have := HJ11.out; have := HK3.out; omega⟩, ⟨by (with_reducible repeat (first | apply Kd.zbb | apply Kd.zba | apply Kd.zbf)); exact Kd.zbh HO225.out (fun _ hk => trivial)⟩, ⟨by (with_reducible repeat (first | refine zag ?_ _ | refine zai ?_ | refine zaf ?_ _)); exact BK180.out⟩, ⟨by repeat (first | (with_reducible first | exact HB.out | apply zad | apply zac | apply zae | refine zah ?_ GE180.out | refine zah ?_ GE215.out) | exact HB.out)⟩⟩
           ·rw [if_neg c56] at H
            exact absurd H (by simp)
          ·replace c54 := Bool.eq_false_iff.mpr c54
           subst c54
           have H1 : ((zal.f k3 x5_3 (t216.length : Int)).bind fun t226 => (if t226.length + t216.length < 140737488355328 then (zam.l0 k3 false (t226 ++ t216) l0_9 (l0_9.length : Int) (wrap64 (x68_3 + 1)) a0_0 a0_1 a0_2 a0_3 a0_4 a0_5 a0_6 a0_7 a0_8 l0_9 a0_10 a0_11 l0_12 a0_13) else (none))) = some (r1, r2) := by rw [if_neg (show ¬ (false = true) by decide)] at H; exact H
           clear H
           have H := H1
           clear H1
           replace H := Option.bind_eq_some_iff.mp H
           obtain ⟨t226, A650, H⟩ := H
           replace H : (if t226.length + t216.length < 140737488355328 then (zam.l0 k3 false (t226 ++ t216) l0_9 (l0_9.length : Int) (wrap64 (x68_3 + 1)) a0_0 a0_1 a0_2 a0_3 a0_4 a0_5 a0_6 a0_7 a0_8 l0_9 a0_10 a0_11 l0_12 a0_13) else (none)) = some (r1, r2) := H
           have A65 := Aside0.mk A650
           clear A650
           by_cases c66 : t226.length + t216.length < 140737488355328
           ·rw [if_pos c66] at H
            have LMc66 := Aside0.mk c66
            clear c66
            obtain ⟨y229, hy229⟩ : ∃ y_ : List Int, y_ = (t226 ++ t216) := ⟨_, rfl⟩
            replace H : (zam.l0 k3 false y229 l0_9 (l0_9.length : Int) (wrap64 (x68_3 + 1)) a0_0 a0_1 a0_2 a0_3 a0_4 a0_5 a0_6 a0_7 a0_8 l0_9 a0_10 a0_11 l0_12 a0_13) = some (r1, r2) := by first | (rw [hy229]; with_reducible exact H) | (have H2_ := (Option.bind_some _ _).symm.trans H; rw [hy229]; with_reducible exact H2_) | (have H2_ := (Option.bind_some _ _).symm.trans H; with_reducible exact H2_) | with_reducible exact H | (rw [hy229]; exact H) | exact H
            have Ny229 := Aside0.mk hy229
            clear hy229
            have H' := Aside0.mk H
            clear H
            have p214 : 0 ≤ (x68_3 : Int) := of_decide_eq_true (by first | (with_reducible assumption) | assumption)
            have q214 : x68_3 < (l0_9.length : Int) := of_decide_eq_true (by first | (with_reducible assumption) | assumption)
            obtain ⟨ad214, A214_9, c214_9, A214_13, c214_13, e214, hx214_0, hx214_1, hx214_2, hx214_3, hx214_4, hx214_5, hx214_6, hx214_7, hx214_8, hx214_9, hx214_10, hx214_11, hx214_12, hx214_13, hl214_9, hi214_9, hl214_13, hi214_13⟩ := zjh HR0_9.out x68_3 p214 q214
            cases e214
            replace hx214_0 := (HB.out.cell (World.block_lt_of_cell? w _ hx214_0)).trans hx214_0
            replace hx214_1 := (HB.out.cell (World.block_lt_of_cell? w _ hx214_1)).trans hx214_1
            replace hx214_2 := (HB.out.cell (World.block_lt_of_cell? w _ hx214_2)).trans hx214_2
            replace hx214_3 := (HB.out.cell (World.block_lt_of_cell? w _ hx214_3)).trans hx214_3
            replace hx214_4 := (HB.out.cell (World.block_lt_of_cell? w _ hx214_4)).trans hx214_4
            replace hx214_5 := (HB.out.cell (World.block_lt_of_cell? w _ hx214_5)).trans hx214_5
            replace hx214_6 := (HB.out.cell (World.block_lt_of_cell? w _ hx214_6)).trans hx214_6
            replace hx214_7 := (HB.out.cell (World.block_lt_of_cell? w _ hx214_7)).trans hx214_7
            replace hx214_8 := (HB.out.cell (World.block_lt_of_cell? w _ hx214_8)).trans hx214_8
            replace hx214_9 := (HB.out.cell (World.block_lt_of_cell? w _ hx214_9)).trans hx214_9
            replace hx214_10 := (HB.out.cell (World.block_lt_of_cell? w _ hx214_10)).trans hx214_10
            replace hx214_11 := (HB.out.cell (World.block_lt_of_cell? w _ hx214_11)).trans hx214_11
            replace hx214_12 := (HB.out.cell (World.block_lt_of_cell? w _ hx214_12)).trans hx214_12
            replace hx214_13 := (HB.out.cell (World.block_lt_of_cell? w _ hx214_13)).trans hx214_13
            have HR214_9 := Aside0.mk hi214_9
            have HC214_9 := Aside0.mk hl214_9
            clear hi214_9 hl214_9
            have HR214_13 := Aside0.mk hi214_13
            have HC214_13 := Aside0.mk hl214_13
            clear hi214_13 hl214_13
            replace p214 := eq_true p214
            replace q214 := eq_true q214
            go_wp2_with (first | ((with_reducible refine zcr (N := 7) rfl ?_); refine zcm ?hg (N := 7) ?hd (cs := #[.int .i64 0, .int .i64 0, .int .i64 0, .string ⟨#[]⟩, .string ⟨#[]⟩, .string ⟨#[]⟩, .string ⟨#[]⟩, .string ⟨#[]⟩, .string ⟨#[]⟩, .slice none 0 0, .int .i64 0, .int .i64 0, .int .i64 0, .slice none 0 0]) (t := 38) ?hr ?_; (case hd => rfl); (case hg => rfl); (case hr => first | (go_simp; done) | (go_simp; rfl)); intro gb215 hg w67 hbox hb; have n0_ := Aside0.mk (Kd.zcq (by (with_reducible repeat (first | apply Kd.zbb | apply Kd.zba | apply Kd.zbf)); exact HO_5.out) hb); have n1_ := Aside0.mk (zbn (g := gb180) (o := .cells #[.int .i64 a0_0, .int .i64 a0_1, .int .i64 a0_2, .int .i64 a0_3, .int .i64 a0_4, .int .i64 a0_5, .bool a0_6, .int .i64 a0_7, .int .i64 a0_8, .slice (some ad214) l0_9.length c0_9, .int .i64 a0_10, .int .i64 a0_11, .slice A0_12 l0_12.length c0_12, .string a0_13] 66 (0, 0)) (by (with_reducible repeat (first | refine zag ?_ _ | refine zai ?_ | refine zaf ?_ _)); exact BK180.out) hb); have n2_ := Aside0.mk (zbl (by repeat (first | (with_reducible first | exact HB.out | apply zad | apply zac | apply zae | refine zah ?_ GE180.out) | exact HB.out)) hb); have n3_ := Aside0.mk (hbox); have n4_ := Aside0.mk ((by rw [hg]; exact (zaz (by repeat (first | (with_reducible first | exact HB.out | apply zad | apply zac | apply zae | refine zah ?_ GE180.out) | exact HB.out))) : w.heap.size ≤ gb215)); have n5_ := Aside0.mk ((by rw [hg]; exact (zaz (by repeat (first | (with_reducible first | exact HB.out | apply zad | apply zac | apply zae | refine zah ?_ GE180.out) | exact HB.out))) : w.heap.size ≤ gb215)); have n6_ := Aside0.mk ((by rw [hg]; exact Nat.ne_of_lt (zdp (g := gb180) (o := .cells #[.int .i64 a0_0, .int .i64 a0_1, .int .i64 a0_2, .int .i64 a0_3, .int .i64 a0_4, .int .i64 a0_5, .bool a0_6, .int .i64 a0_7, .int .i64 a0_8, .slice (some ad214) l0_9.length c0_9, .int .i64 a0_10, .int .i64 a0_11, .slice A0_12 l0_12.length c0_12, .string a0_13] 66 (0, 0)) (by (with_reducible repeat (first | refine zag ?_ _ | refine zai ?_ | refine zaf ?_ _)); exact BK180.out)) : gb180 ≠ gb215)); have n7_ := Aside0.mk ((by rw [hg]; exact Nat.ne_of_gt (zdp (g := gb180) (o := .cells #[.int .i64 a0_0, .int .i64 a0_1, .int .i64 a0_2, .int .i64 a0_3, .int .i64 a0_4, .int .i64 a0_5, .bool a0_6, .int .i64 a0_7, .int .i64 a0_8, .slice (some ad214) l0_9.length c0_9, .int .i64 a0_10, .int .i64 a0_11, .slice A0_12 l0_12.length c0_12, .string a0_13] 66 (0, 0)) (by (with_reducible repeat (first | refine zag ?_ _ | refine zai ?_ | refine zaf ?_ _)); exact BK180.out)) : gb215 ≠ gb180)); clear HO_5; clear BK180; clear HB; have HO_5 := n0_; have BK180 := n1_; have HB := n2_; have BK215 := n3_; have GW215 := n4_; have GE215 := n5_; have NB180_215 := n6_; have NB215_180 := n7_; clear n0_ n1_ n2_ n3_ n4_ n5_ n6_ n7_; clear hb hbox hg; have hnb68 := NB215_180.out; have hnc68 := NB180_215.out; have hcz69_0 : w67.cell? ⟨gb215, 0, none⟩ = some (.int .i64 0) := (zaa BK215.out 0).trans rfl; have hcz69_1 : w67.cell? ⟨gb215, 1, none⟩ = some (.int .i64 0) := (zaa BK215.out 1).trans rfl; have hcz69_2 : w67.cell? ⟨gb215, 2, none⟩ = some (.int .i64 0) := (zaa BK215.out 2).trans rfl; have hcz69_3 : w67.cell? ⟨gb215, 3, none⟩ = some (.string ⟨#[]⟩) := (zaa BK215.out 3).trans rfl; have hcz69_4 : w67.cell? ⟨gb215, 4, none⟩ = some (.string ⟨#[]⟩) := (zaa BK215.out 4).trans rfl; have hcz69_5 : w67.cell? ⟨gb215, 5, none⟩ = some (.string ⟨#[]⟩) := (zaa BK215.out 5).trans rfl; have hcz69_6 : w67.cell? ⟨gb215, 6, none⟩ = some (.string ⟨#[]⟩) := (zaa BK215.out 6).trans rfl; have hcz69_7 : w67.cell? ⟨gb215, 7, none⟩ = some (.string ⟨#[]⟩) := (zaa BK215.out 7).trans rfl; have hcz69_8 : w67.cell? ⟨gb215, 8, none⟩ = some (.string ⟨#[]⟩) := (zaa BK215.out 8).trans rfl; have hcz69_9 : w67.cell? ⟨gb215, 9, none⟩ = some (.slice none 0 0) := (zaa BK215.out 9).trans rfl; have hcz69_10 : w67.cell? ⟨gb215, 10, none⟩ = some (.int .i64 0) := (zaa BK215.out 10).trans rfl; have hcz69_11 : w67.cell? ⟨gb215, 11, none⟩ = some (.int .i64 0) := (zaa BK215.out 11).trans rfl; have hcz69_12 : w67.cell? ⟨gb215, 12, none⟩ = some (.int .i64 0) := (zaa BK215.out 12).trans rfl; have hcz69_13 : w67.cell? ⟨gb215, 13, none⟩ = some (.slice none 0 0) := (zaa BK215.out 13).trans rfl; have hfz69_0 := zab BK215.out 0; have hfz69_1 := zab BK215.out 1; have hfz69_2 := zab BK215.out 2; have hfz69_3 := zab BK215.out 3; have hfz69_4 := zab BK215.out 4; have hfz69_5 := zab BK215.out 5; have hfz69_6 := zab BK215.out 6; have hfz69_7 := zab BK215.out 7; have hfz69_8 := zab BK215.out 8; have hfz69_9 := zab BK215.out 9; have hfz69_10 := zab BK215.out 10; have hfz69_11 := zab BK215.out 11; have hfz69_12 := zab BK215.out 12; have hfz69_13 := zab BK215.out 13) | ((with_reducible refine zbe (f := 24) rfl ?_); refine zcg (some 74) rfl rfl Try.func24 (by kernel_rfl) rfl #[.agg #[.int .i64 ((zak l0_9 x68_3).f0), .int .i64 ((zak l0_9 x68_3).f1), .int .i64 ((zak l0_9 x68_3).f2.f0), .string ((zak l0_9 x68_3).f2.f1), .string ((zak l0_9 x68_3).f2.f2), .string ((zak l0_9 x68_3).f2.f3), .string ((zak l0_9 x68_3).f2.f4), .string ((zak l0_9 x68_3).f2.f5), .string ((zak l0_9 x68_3).f2.f6), .slice A214_9 ((zak l0_9 x68_3).f2.f7).length c214_9, .int .i64 ((zak l0_9 x68_3).f2.f8), .int .i64 ((zak l0_9 x68_3).f2.f9), .int .i64 ((zak l0_9 x68_3).f2.f10), .slice A214_13 ((zak l0_9 x68_3).f3).length c214_13]] rfl (by (try simp only [List.map_toArray, List.map_cons, List.map_nil]); first | done | rfl | (simp only [List.length_drop, List.length_take]; rfl)) ?_; (with_reducible refine (zaq.calls k3 ((zak l0_9 x68_3).f0) ((zak l0_9 x68_3).f1) ((zak l0_9 x68_3).f2.f0) ((zak l0_9 x68_3).f2.f1) ((zak l0_9 x68_3).f2.f2) ((zak l0_9 x68_3).f2.f3) ((zak l0_9 x68_3).f2.f4) ((zak l0_9 x68_3).f2.f5) ((zak l0_9 x68_3).f2.f6) _ _ ((zak l0_9 x68_3).f2.f7) ((zak l0_9 x68_3).f2.f8) ((zak l0_9 x68_3).f2.f9) ((zak l0_9 x68_3).f2.f10) _ _ ((zak l0_9 x68_3).f3) t216 t219 _ ?side1 ?side2 ?side3 ?side4 A53.out).mono ?_); (case side1 => exact Kd.zci HR214_9.out (by repeat (first | (with_reducible first | exact HB.out | apply zad | apply zac | apply zae | refine zah ?_ GE180.out | refine zah ?_ GE215.out) | exact HB.out))); (case side2 => exact HC214_9.out); (case side3 => exact Kd.zci HR214_13.out (by repeat (first | (with_reducible first | exact HB.out | apply zad | apply zac | apply zae | refine zah ?_ GE180.out | refine zah ?_ GE215.out) | exact HB.out))); (case side4 => exact HC214_13.out); rintro e w70 ⟨v217, rfl, ho0, hb⟩; refine ⟨_, rfl, ?_⟩; have n0_ := Aside0.mk (Kd.zez (by (with_reducible repeat (first | apply Kd.zbb | apply Kd.zba | apply Kd.zbf)); exact (Kd.zbh (Kd.zbk (p := ⟨gb215, 13, none⟩) (Kd.zbk (p := ⟨gb215, 12, none⟩) (Kd.zbk (p := ⟨gb215, 11, none⟩) (Kd.zbk (p := ⟨gb215, 10, none⟩) (Kd.zbk (p := ⟨gb215, 9, none⟩) (Kd.zbk (p := ⟨gb215, 8, none⟩) (Kd.zbk (p := ⟨gb215, 7, none⟩) (Kd.zbk (p := ⟨gb215, 6, none⟩) (Kd.zbk (p := ⟨gb215, 5, none⟩) (Kd.zbk (p := ⟨gb215, 4, none⟩) (Kd.zbk (p := ⟨gb215, 3, none⟩) (Kd.zbk (p := ⟨gb215, 2, none⟩) (Kd.zbk (p := ⟨gb215, 1, none⟩) (Kd.zbk (p := ⟨gb215, 0, none⟩) (Kd.zco HO_5.out BK215.out (by decide)) (fun _ hk => hk.2) (.int .i64 ((zak l0_9 x68_3).f0))) (fun _ hk => hk.2) (.int .i64 ((zak l0_9 x68_3).f1))) (fun _ hk => hk.2) (.int .i64 ((zak l0_9 x68_3).f2.f0))) (fun _ hk => hk.2) (.string ((zak l0_9 x68_3).f2.f1))) (fun _ hk => hk.2) (.string ((zak l0_9 x68_3).f2.f2))) (fun _ hk => hk.2) (.string ((zak l0_9 x68_3).f2.f3))) (fun _ hk => hk.2) (.string ((zak l0_9 x68_3).f2.f4))) (fun _ hk => hk.2) (.string ((zak l0_9 x68_3).f2.f5))) (fun _ hk => hk.2) (.string ((zak l0_9 x68_3).f2.f6))) (fun _ hk => hk.2) (.slice A214_9 ((zak l0_9 x68_3).f2.f7).length c214_9)) (fun _ hk => hk.2) (.int .i64 ((zak l0_9 x68_3).f2.f8))) (fun _ hk => hk.2) (.int .i64 ((zak l0_9 x68_3).f2.f9))) (fun _ hk => hk.2) (.int .i64 ((zak l0_9 x68_3).f2.f10))) (fun _ hk => hk.2) (.slice A214_13 ((zak l0_9 x68_3).f3).length c214_13)) (fun _ h_ => h_.1))) (Kd.zhg ho0) hb); have n1_ := Aside0.mk (Kd.zdn (Kd.zhf ho0 (Kd.R_lt (by (with_reducible repeat (first | apply Kd.zbb | apply Kd.zba | apply Kd.zbf)); exact (Kd.zbh (Kd.zbk (p := ⟨gb215, 13, none⟩) (Kd.zbk (p := ⟨gb215, 12, none⟩) (Kd.zbk (p := ⟨gb215, 11, none⟩) (Kd.zbk (p := ⟨gb215, 10, none⟩) (Kd.zbk (p := ⟨gb215, 9, none⟩) (Kd.zbk (p := ⟨gb215, 8, none⟩) (Kd.zbk (p := ⟨gb215, 7, none⟩) (Kd.zbk (p := ⟨gb215, 6, none⟩) (Kd.zbk (p := ⟨gb215, 5, none⟩) (Kd.zbk (p := ⟨gb215, 4, none⟩) (Kd.zbk (p := ⟨gb215, 3, none⟩) (Kd.zbk (p := ⟨gb215, 2, none⟩) (Kd.zbk (p := ⟨gb215, 1, none⟩) (Kd.zbk (p := ⟨gb215, 0, none⟩) (Kd.zco HO_5.out BK215.out (by decide)) (fun _ hk => hk.2) (.int .i64 ((zak l0_9 x68_3).f0))) (fun _ hk => hk.2) (.int .i64 ((zak l0_9 x68_3).f1))) (fun _ hk => hk.2) (.int .i64 ((zak l0_9 x68_3).f2.f0))) (fun _ hk => hk.2) (.string ((zak l0_9 x68_3).f2.f1))) (fun _ hk => hk.2) (.string ((zak l0_9 x68_3).f2.f2))) (fun _ hk => hk.2) (.string ((zak l0_9 x68_3).f2.f3))) (fun _ hk => hk.2) (.string ((zak l0_9 x68_3).f2.f4))) (fun _ hk => hk.2) (.string ((zak l0_9 x68_3).f2.f5))) (fun _ hk => hk.2) (.string ((zak l0_9 x68_3).f2.f6))) (fun _ hk => hk.2) (.slice A214_9 ((zak l0_9 x68_3).f2.f7).length c214_9)) (fun _ hk => hk.2) (.int .i64 ((zak l0_9 x68_3).f2.f8))) (fun _ hk => hk.2) (.int .i64 ((zak l0_9 x68_3).f2.f9))) (fun _ hk => hk.2) (.int .i64 ((zak l0_9 x68_3).f2.f10))) (fun _ hk => hk.2) (.slice A214_13 ((zak l0_9 x68_3).f3).length c214_13)) (fun _ h_ => h_.1))))) (zaz (by repeat (first | (with_reducible first | exact HB.out | apply zad | apply zac | apply zae | refine zah ?_ GE180.out | refine zah ?_ GE215.out) | exact HB.out)))); have n2_ := Aside0.mk (zbn (g := gb180) (o := .cells #[.int .i64 a0_0, .int .i64 a0_1, .int .i64 a0_2, .int .i64 a0_3, .int .i64 a0_4, .int .i64 a0_5, .bool a0_6, .int .i64 a0_7, .int .i64 a0_8, .slice (some ad214) l0_9.length c0_9, .int .i64 a0_10, .int .i64 a0_11, .slice A0_12 l0_12.length c0_12, .string a0_13] 66 (0, 0)) (by (with_reducible repeat (first | refine zag ?_ _ | refine zai ?_ | refine zaf ?_ _)); refine zbi ?_ NB180_215.out _; (with_reducible repeat (first | refine zag ?_ _ | refine zai ?_ | refine zaf ?_ _)); refine zbi ?_ NB180_215.out _; (with_reducible repeat (first | refine zag ?_ _ | refine zai ?_ | refine zaf ?_ _)); refine zbi ?_ NB180_215.out _; (with_reducible repeat (first | refine zag ?_ _ | refine zai ?_ | refine zaf ?_ _)); refine zbi ?_ NB180_215.out _; (with_reducible repeat (first | refine zag ?_ _ | refine zai ?_ | refine zaf ?_ _)); refine zbi ?_ NB180_215.out _; (with_reducible repeat (first | refine zag ?_ _ | refine zai ?_ | refine zaf ?_ _)); refine zbi ?_ NB180_215.out _; (with_reducible repeat (first | refine zag ?_ _ | refine zai ?_ | refine zaf ?_ _)); refine zbi ?_ NB180_215.out _; (with_reducible repeat (first | refine zag ?_ _ | refine zai ?_ | refine zaf ?_ _)); refine zbi ?_ NB180_215.out _; (with_reducible repeat (first | refine zag ?_ _ | refine zai ?_ | refine zaf ?_ _)); refine zbi ?_ NB180_215.out _; (with_reducible repeat (first | refine zag ?_ _ | refine zai ?_ | refine zaf ?_ _)); refine zbi ?_ NB180_215.out _; (with_reducible repeat (first | refine zag ?_ _ | refine zai ?_ | refine zaf ?_ _)); refine zbi ?_ NB180_215.out _; (with_reducible repeat (first | refine zag ?_ _ | refine zai ?_ | refine zaf ?_ _)); refine zbi ?_ NB180_215.out _; (with_reducible repeat (first | refine zag ?_ _ | refine zai ?_ | refine zaf ?_ _)); refine zbi ?_ NB180_215.out _; (with_reducible repeat (first | refine zag ?_ _ | refine zai ?_ | refine zaf ?_ _)); refine zbi ?_ NB180_215.out _; (with_reducible repeat (first | refine zag ?_ _ | refine zai ?_ | refine zaf ?_ _)); exact BK180.out) hb); have n3_ := Aside0.mk (zbn (g := gb215) (o := .cells #[.int .i64 ((zak l0_9 x68_3).f0), .int .i64 ((zak l0_9 x68_3).f1), .int .i64 ((zak l0_9 x68_3).f2.f0), .string ((zak l0_9 x68_3).f2.f1), .string ((zak l0_9 x68_3).f2.f2), .string ((zak l0_9 x68_3).f2.f3), .string ((zak l0_9 x68_3).f2.f4), .string ((zak l0_9 x68_3).f2.f5), .string ((zak l0_9 x68_3).f2.f6), .slice A214_9 ((zak l0_9 x68_3).f2.f7).length c214_9, .int .i64 ((zak l0_9 x68_3).f2.f8), .int .i64 ((zak l0_9 x68_3).f2.f9), .int .i64 ((zak l0_9 x68_3).f2.f10), .slice A214_13 ((zak l0_9 x68_3).f3).length c214_13] 38 (0, 0)) (by (with_reducible repeat (first | refine zag ?_ _ | refine zai ?_ | refine zaf ?_ _)); refine zbd (cs := #[.int .i64 ((zak l0_9 x68_3).f0), .int .i64 ((zak l0_9 x68_3).f1), .int .i64 ((zak l0_9 x68_3).f2.f0), .string ((zak l0_9 x68_3).f2.f1), .string ((zak l0_9 x68_3).f2.f2), .string ((zak l0_9 x68_3).f2.f3), .string ((zak l0_9 x68_3).f2.f4), .string ((zak l0_9 x68_3).f2.f5), .string ((zak l0_9 x68_3).f2.f6), .slice A214_9 ((zak l0_9 x68_3).f2.f7).length c214_9, .int .i64 ((zak l0_9 x68_3).f2.f8), .int .i64 ((zak l0_9 x68_3).f2.f9), .int .i64 ((zak l0_9 x68_3).f2.f10), .slice none 0 0]) ?_ 13 _ rfl; (with_reducible repeat (first | refine zag ?_ _ | refine zai ?_ | refine zaf ?_ _)); refine zbd (cs := #[.int .i64 ((zak l0_9 x68_3).f0), .int .i64 ((zak l0_9 x68_3).f1), .int .i64 ((zak l0_9 x68_3).f2.f0), .string ((zak l0_9 x68_3).f2.f1), .string ((zak l0_9 x68_3).f2.f2), .string ((zak l0_9 x68_3).f2.f3), .string ((zak l0_9 x68_3).f2.f4), .string ((zak l0_9 x68_3).f2.f5), .string ((zak l0_9 x68_3).f2.f6), .slice A214_9 ((zak l0_9 x68_3).f2.f7).length c214_9, .int .i64 ((zak l0_9 x68_3).f2.f8), .int .i64 ((zak l0_9 x68_3).f2.f9), .int .i64 0, .slice none 0 0]) ?_ 12 _ rfl; (with_reducible repeat (first | refine zag ?_ _ | refine zai ?_ | refine zaf ?_ _)); refine zbd (cs := #[.int .i64 ((zak l0_9 x68_3).f0), .int .i64 ((zak l0_9 x68_3).f1), .int .i64 ((zak l0_9 x68_3).f2.f0), .string ((zak l0_9 x68_3).f2.f1), .string ((zak l0_9 x68_3).f2.f2), .string ((zak l0_9 x68_3).f2.f3), .string ((zak l0_9 x68_3).f2.f4), .string ((zak l0_9 x68_3).f2.f5), .string ((zak l0_9 x68_3).f2.f6), .slice A214_9 ((zak l0_9 x68_3).f2.f7).length c214_9, .int .i64 ((zak l0_9 x68_3).f2.f8), .int .i64 0, .int .i64 0, .slice none 0 0]) ?_ 11 _ rfl; (with_reducible repeat (first | refine zag ?_ _ | refine zai ?_ | refine zaf ?_ _)); refine zbd (cs := #[.int .i64 ((zak l0_9 x68_3).f0), .int .i64 ((zak l0_9 x68_3).f1), .int .i64 ((zak l0_9 x68_3).f2.f0), .string ((zak l0_9 x68_3).f2.f1), .string ((zak l0_9 x68_3).f2.f2), .string ((zak l0_9 x68_3).f2.f3), .string ((zak l0_9 x68_3).f2.f4), .string ((zak l0_9 x68_3).f2.f5), .string ((zak l0_9 x68_3).f2.f6), .slice A214_9 ((zak l0_9 x68_3).f2.f7).length c214_9, .int .i64 0, .int .i64 0, .int .i64 0, .slice none 0 0]) ?_ 10 _ rfl; (with_reducible repeat (first | refine zag ?_ _ | refine zai ?_ | refine zaf ?_ _)); refine zbd (cs := #[.int .i64 ((zak l0_9 x68_3).f0), .int .i64 ((zak l0_9 x68_3).f1), .int .i64 ((zak l0_9 x68_3).f2.f0), .string ((zak l0_9 x68_3).f2.f1), .string ((zak l0_9 x68_3).f2.f2), .string ((zak l0_9 x68_3).f2.f3), .string ((zak l0_9 x68_3).f2.f4), .string ((zak l0_9 x68_3).f2.f5), .string ((zak l0_9 x68_3).f2.f6), .slice none 0 0, .int .i64 0, .int .i64 0, .int .i64 0, .slice none 0 0]) ?_ 9 _ rfl; (with_reducible repeat (first | refine zag ?_ _ | refine zai ?_ | refine zaf ?_ _)); refine zbd (cs := #[.int .i64 ((zak l0_9 x68_3).f0), .int .i64 ((zak l0_9 x68_3).f1), .int .i64 ((zak l0_9 x68_3).f2.f0), .string ((zak l0_9 x68_3).f2.f1), .string ((zak l0_9 x68_3).f2.f2), .string ((zak l0_9 x68_3).f2.f3), .string ((zak l0_9 x68_3).f2.f4), .string ((zak l0_9 x68_3).f2.f5), .string ⟨#[]⟩, .slice none 0 0, .int .i64 0, .int .i64 0, .int .i64 0, .slice none 0 0]) ?_ 8 _ rfl; (with_reducible repeat (first | refine zag ?_ _ | refine zai ?_ | refine zaf ?_ _)); refine zbd (cs := #[.int .i64 ((zak l0_9 x68_3).f0), .int .i64 ((zak l0_9 x68_3).f1), .int .i64 ((zak l0_9 x68_3).f2.f0), .string ((zak l0_9 x68_3).f2.f1), .string ((zak l0_9 x68_3).f2.f2), .string ((zak l0_9 x68_3).f2.f3), .string ((zak l0_9 x68_3).f2.f4), .string ⟨#[]⟩, .string ⟨#[]⟩, .slice none 0 0, .int .i64 0, .int .i64 0, .int .i64 0, .slice none 0 0]) ?_ 7 _ rfl; (with_reducible repeat (first | refine zag ?_ _ | refine zai ?_ | refine zaf ?_ _)); refine zbd (cs := #[.int .i64 ((zak l0_9 x68_3).f0), .int .i64 ((zak l0_9 x68_3).f1), .int .i64 ((zak l0_9 x68_3).f2.f0), .string ((zak l0_9 x68_3).f2.f1), .string ((zak l0_9 x68_3).f2.f2), .string ((zak l0_9 x68_3).f2.f3), .string ⟨#[]⟩, .string ⟨#[]⟩, .string ⟨#[]⟩, .slice none 0 0, .int .i64 0, .int .i64 0, .int .i64 0, .slice none 0 0]) ?_ 6 _ rfl; (with_reducible repeat (first | refine zag ?_ _ | refine zai ?_ | refine zaf ?_ _)); refine zbd (cs := #[.int .i64 ((zak l0_9 x68_3).f0), .int .i64 ((zak l0_9 x68_3).f1), .int .i64 ((zak l0_9 x68_3).f2.f0), .string ((zak l0_9 x68_3).f2.f1), .string ((zak l0_9 x68_3).f2.f2), .string ⟨#[]⟩, .string ⟨#[]⟩, .string ⟨#[]⟩, .string ⟨#[]⟩, .slice none 0 0, .int .i64 0, .int .i64 0, .int .i64 0, .slice none 0 0]) ?_ 5 _ rfl; (with_reducible repeat (first | refine zag ?_ _ | refine zai ?_ | refine zaf ?_ _)); refine zbd (cs := #[.int .i64 ((zak l0_9 x68_3).f0), .int .i64 ((zak l0_9 x68_3).f1), .int .i64 ((zak l0_9 x68_3).f2.f0), .string ((zak l0_9 x68_3).f2.f1), .string ⟨#[]⟩, .string ⟨#[]⟩, .string ⟨#[]⟩, .string ⟨#[]⟩, .string ⟨#[]⟩, .slice none 0 0, .int .i64 0, .int .i64 0, .int .i64 0, .slice none 0 0]) ?_ 4 _ rfl; (with_reducible repeat (first | refine zag ?_ _ | refine zai ?_ | refine zaf ?_ _)); refine zbd (cs := #[.int .i64 ((zak l0_9 x68_3).f0), .int .i64 ((zak l0_9 x68_3).f1), .int .i64 ((zak l0_9 x68_3).f2.f0), .string ⟨#[]⟩, .string ⟨#[]⟩, .string ⟨#[]⟩, .string ⟨#[]⟩, .string ⟨#[]⟩, .string ⟨#[]⟩, .slice none 0 0, .int .i64 0, .int .i64 0, .int .i64 0, .slice none 0 0]) ?_ 3 _ rfl; (with_reducible repeat (first | refine zag ?_ _ | refine zai ?_ | refine zaf ?_ _)); refine zbd (cs := #[.int .i64 ((zak l0_9 x68_3).f0), .int .i64 ((zak l0_9 x68_3).f1), .int .i64 0, .string ⟨#[]⟩, .string ⟨#[]⟩, .string ⟨#[]⟩, .string ⟨#[]⟩, .string ⟨#[]⟩, .string ⟨#[]⟩, .slice none 0 0, .int .i64 0, .int .i64 0, .int .i64 0, .slice none 0 0]) ?_ 2 _ rfl; (with_reducible repeat (first | refine zag ?_ _ | refine zai ?_ | refine zaf ?_ _)); refine zbd (cs := #[.int .i64 ((zak l0_9 x68_3).f0), .int .i64 0, .int .i64 0, .string ⟨#[]⟩, .string ⟨#[]⟩, .string ⟨#[]⟩, .string ⟨#[]⟩, .string ⟨#[]⟩, .string ⟨#[]⟩, .slice none 0 0, .int .i64 0, .int .i64 0, .int .i64 0, .slice none 0 0]) ?_ 1 _ rfl; (with_reducible repeat (first | refine zag ?_ _ | refine zai ?_ | refine zaf ?_ _)); refine zbd (cs := #[.int .i64 0, .int .i64 0, .int .i64 0, .string ⟨#[]⟩, .string ⟨#[]⟩, .string ⟨#[]⟩, .string ⟨#[]⟩, .string ⟨#[]⟩, .string ⟨#[]⟩, .slice none 0 0, .int .i64 0, .int .i64 0, .int .i64 0, .slice none 0 0]) ?_ 0 _ rfl; (with_reducible repeat (first | refine zag ?_ _ | refine zai ?_ | refine zaf ?_ _)); exact BK215.out) hb); have n4_ := Aside0.mk (zbl (by repeat (first | (with_reducible first | exact HB.out | apply zad | apply zac | apply zae | refine zah ?_ GE180.out | refine zah ?_ GE215.out) | exact HB.out)) hb); clear HO_5; clear BK180; clear BK215; clear HB; have HO_5 := n0_; have HO218 := n1_; have BK180 := n2_; have BK215 := n3_; have HB := n4_; clear n0_ n1_ n2_ n3_ n4_; (try clear hb); (try clear hb2); (try clear hk); (try clear hi); (try clear ho0); obtain ⟨Ao71, co71, eo71⟩ := Kd.zbu HO218.out; subst eo71; obtain ⟨Ao72, co72, eo72⟩ := Kd.zbu HO_5.out; subst eo72) | ((with_reducible refine zbe (f := 55) rfl ?_); refine zcg (some 84) rfl rfl Try.func55 (by kernel_rfl) rfl #[.slice Ao72 x5_3.length co72, .int .i64 (t216.length : Int)] rfl (by (try simp only [List.map_toArray, List.map_cons, List.map_nil]); first | done | rfl | (simp only [List.length_drop, List.length_take]; rfl)) ?_; (with_reducible refine (zal.calls k3 (fun k_ => some k_ = (.slice Ao72 x5_3.length co72 : Value).ownBlock) (.slice Ao72 x5_3.length co72) x5_3 (t216.length : Int) t226 w _ ?side1 ?side2 A65.out).mono ?_); (case side1 => repeat (first | (with_reducible first | exact HB.out | apply zad | apply zac | apply zae | refine zah ?_ GE180.out | refine zah ?_ GE215.out) | exact HB.out)); (case side2 => exact Kd.zct rfl HO_5.out); rintro e w73 ⟨v227, rfl, ho0, hb, hkp⟩; refine ⟨_, rfl, ?_⟩; have n0_ := Aside0.mk (zbr (by (with_reducible repeat (first | refine zag ?_ _ | refine zai ?_ | refine zaf ?_ _)); exact BK180.out) hkp (fun hs_ => (fun e_ => (Kd.R_ne HO_5.out BK180.out (by decide)) e_) hs_)); have n1_ := Aside0.mk (zbr (by (with_reducible repeat (first | refine zag ?_ _ | refine zai ?_ | refine zaf ?_ _)); exact BK215.out) hkp (fun hs_ => (fun e_ => (Kd.R_ne HO_5.out BK215.out (by decide)) e_) hs_)); have n2_ := Aside0.mk (Kd.zbh (ok' := fun k_ => some k_ ≠ (v227 : Value).ownBlock) (Kd.zgg (HO218.out) hkp (fun k_ hk_ hs_ => (hk_.2) hs_)) (fun k_ hk_ => fun e_ => Or.elim (ho0.1 k_ e_.symm) (fun hs_ => hk_.2.1 hs_) (fun hn_ => Nat.not_le.2 hk_.2.2 hn_))); have n3_ := Aside0.mk (Kd.zbh (ok' := fun k_ => some k_ ≠ (.slice Ao71 t216.length co71 : Value).ownBlock) ho0 (fun k_ hk_ => Or.elim hk_ (fun hs_ => fun e_ => (((HO218.out).1 k_ e_.symm).2) hs_) (fun hn_ => (Kd.fresh' (Kd.R_lt (by (with_reducible repeat (first | apply Kd.zbb | apply Kd.zba | apply Kd.zbf)); exact HO218.out)) k_ hn_)))); have n4_ := Aside0.mk (hb); clear BK180; clear BK215; clear HO218; clear HB; clear HO_5; have BK180 := n0_; have BK215 := n1_; have HO218 := n2_; have HO228 := n3_; have HB := n4_; clear n0_ n1_ n2_ n3_ n4_; (try clear hb); (try clear hkp); (try clear ho0)) | ((with_reducible refine zcd (b := .append) (xs := #[.tmp 85, .tmp 86]) rfl ?_); at_builtin; refine Kd.R_append_rows (Kd.int .u8) (w0 := w) w.heap.size rfl (.tmp 85) (.tmp 86) 27 5 (.int .u8 0) 1 rfl Try.underlying27 info5 rfl (by decide) (by omega) v227 t226 t216 _ _ _ (fun k_ => some k_ ≠ (.slice Ao71 t216.length co71 : Value).ownBlock) (fun _ => False) rfl rfl ?aO ?aR (fun _ _ h => h) (fun _ h => h.elim) ?aF ?aB ?aS ?aL ?_; (case aR => repeat (first | exact (Kd.zed HO218.out).2.2 | (with_reducible refine Kd.zev ?_ _) | (with_reducible refine Kd.zeu ?_ _) | (with_reducible refine Kd.zfw ?_))); (case aB => exact (by repeat (first | (with_reducible first | exact HB.out | apply zad | apply zac | apply zae | refine zah ?_ GE180.out | refine zah ?_ GE215.out) | exact HB.out))); (case aF => exact (fun k_ hk => Kd.fresh' (Kd.R_lt (by (with_reducible repeat (first | apply Kd.zbb | apply Kd.zba | apply Kd.zbf)); exact HO218.out)) k_ hk)); (case aO => exact (by (with_reducible repeat (first | apply Kd.zbb | apply Kd.zba | apply Kd.zbf)); exact HO228.out)); (case aS => exact (zaz (by repeat (first | (with_reducible first | exact HB.out | apply zad | apply zac | apply zae | refine zah ?_ GE180.out | refine zah ?_ GE215.out) | exact HB.out)))); (case aL => have := LMc66.out; omega); intro v230 w74 ho hb hg hat; rw [← Ny229.out] at ho; have n0_ := Aside0.mk (zbm (g := gb180) (o := .cells #[.int .i64 a0_0, .int .i64 a0_1, .int .i64 a0_2, .int .i64 a0_3, .int .i64 a0_4, .int .i64 a0_5, .bool a0_6, .int .i64 a0_7, .int .i64 a0_8, .slice (some ad214) l0_9.length c0_9, .int .i64 a0_10, .int .i64 a0_11, .slice A0_12 l0_12.length c0_12, .string a0_13] 66 (0, 0)) (by (with_reducible repeat (first | refine zag ?_ _ | refine zai ?_ | refine zaf ?_ _)); exact BK180.out) hg (Kd.R_ne HO228.out BK180.out (by decide))); have n1_ := Aside0.mk (zbm (g := gb215) (o := .cells #[.int .i64 ((zak l0_9 x68_3).f0), .int .i64 ((zak l0_9 x68_3).f1), .int .i64 ((zak l0_9 x68_3).f2.f0), .string ((zak l0_9 x68_3).f2.f1), .string ((zak l0_9 x68_3).f2.f2), .string ((zak l0_9 x68_3).f2.f3), .string ((zak l0_9 x68_3).f2.f4), .string ((zak l0_9 x68_3).f2.f5), .string ((zak l0_9 x68_3).f2.f6), .slice A214_9 ((zak l0_9 x68_3).f2.f7).length c214_9, .int .i64 ((zak l0_9 x68_3).f2.f8), .int .i64 ((zak l0_9 x68_3).f2.f9), .int .i64 ((zak l0_9 x68_3).f2.f10), .slice A214_13 ((zak l0_9 x68_3).f3).length c214_13] 38 (0, 0)) (by (with_reducible repeat (first | refine zag ?_ _ | refine zai ?_ | refine zaf ?_ _)); exact BK215.out) hg (Kd.R_ne HO228.out BK215.out (by decide))); have n2_ := Aside0.mk (Kd.zfu (ok := (fun _ => True)) (by (with_reducible repeat (first | apply Kd.zbb | apply Kd.zba | apply Kd.zbf)); exact Kd.zbh HO218.out (fun _ hk => ⟨trivial, hk⟩)) hg hat); have n3_ := Aside0.mk (hb); have n4_ := Aside0.mk (ho); clear BK180; clear BK215; clear HO218; clear HB; clear HO228; have BK180 := n0_; have BK215 := n1_; have HO218 := n2_; have HB := n3_; have HO231 := n4_; clear n0_ n1_ n2_ n3_ n4_; clear ho hb hg hat))
            go_roundg k3
            case measure => have := HJ1.out; have := HJ11.out; have := HK3.out; omega
            case rel => exact ⟨(false), (y229), (wrap64 (x68_3 + 1)), (by first | rfl | (simp; done) | (simp [*]; done)), (by first | rfl | (simp; done) | (simp [*]; done)), H', ⟨by have := HJ1.out; have := HJ11.out; have := HK3.out; omega⟩, ⟨by (with_reducible repeat (first | apply Kd.zbb | apply Kd.zba | apply Kd.zbf)); exact Kd.zbh HO231.out (fun _ hk => trivial)⟩, ⟨by (with_reducible repeat (first | refine zag ?_ _ | refine zai ?_ | refine zaf ?_ _)); exact BK180.out⟩, ⟨by repeat (first | (with_reducible first | exact HB.out | apply zad | apply zac | apply zae | refine zah ?_ GE180.out | refine zah ?_ GE215.out) | exact HB.out)⟩⟩
           ·rw [if_neg c66] at H
            exact absurd H (by simp)
         ·rw [if_neg c52] at H
          exact absurd H (by simp)
        ·rw [if_neg c51] at H
         exact absurd H (by simp)
       ·rw [if_neg c50] at H
        have c50b0 : decide (x68_3 < (l0_9.length : Int)) = false := decide_eq_false c50
        clear c50
        replace H := Option.bind_eq_some_iff.mp H
        obtain ⟨t232, A750, H⟩ := H
        replace H : ((zal.f k3 t232 a0_11).bind fun t235 => ((zal.f k3 t235 (l0_12.length : Int)).bind fun t238 => (zam.l1 k3 x4_3 t238 l0_12 (l0_12.length : Int) 0 a0_0 a0_1 a0_2 a0_3 a0_4 a0_5 a0_6 a0_7 a0_8 l0_9 a0_10 a0_11 l0_12 a0_13))) = some (r1, r2) := H
        have A75 := Aside0.mk A750
        clear A750
        replace H := Option.bind_eq_some_iff.mp H
        obtain ⟨t235, A760, H⟩ := H
        replace H : ((zal.f k3 t235 (l0_12.length : Int)).bind fun t238 => (zam.l1 k3 x4_3 t238 l0_12 (l0_12.length : Int) 0 a0_0 a0_1 a0_2 a0_3 a0_4 a0_5 a0_6 a0_7 a0_8 l0_9 a0_10 a0_11 l0_12 a0_13)) = some (r1, r2) := H
        have A76 := Aside0.mk A760
        clear A760
        replace H := Option.bind_eq_some_iff.mp H
        obtain ⟨t238, A770, H⟩ := H
        replace H : (zam.l1 k3 x4_3 t238 l0_12 (l0_12.length : Int) 0 a0_0 a0_1 a0_2 a0_3 a0_4 a0_5 a0_6 a0_7 a0_8 l0_9 a0_10 a0_11 l0_12 a0_13) = some (r1, r2) := H
        have A77 := Aside0.mk A770
        clear A770
        have H' := Aside0.mk H
        clear H
        have hcz78_0 : wr.cell? ⟨gb180, 0, none⟩ = some (.int .i64 a0_0) := (zaa BK180.out 0).trans rfl
        have hcz78_1 : wr.cell? ⟨gb180, 1, none⟩ = some (.int .i64 a0_1) := (zaa BK180.out 1).trans rfl
        have hcz78_2 : wr.cell? ⟨gb180, 2, none⟩ = some (.int .i64 a0_2) := (zaa BK180.out 2).trans rfl
        have hcz78_3 : wr.cell? ⟨gb180, 3, none⟩ = some (.int .i64 a0_3) := (zaa BK180.out 3).trans rfl
        have hcz78_4 : wr.cell? ⟨gb180, 4, none⟩ = some (.int .i64 a0_4) := (zaa BK180.out 4).trans rfl
        have hcz78_5 : wr.cell? ⟨gb180, 5, none⟩ = some (.int .i64 a0_5) := (zaa BK180.out 5).trans rfl
        have hcz78_6 : wr.cell? ⟨gb180, 6, none⟩ = some (.bool a0_6) := (zaa BK180.out 6).trans rfl
        have hcz78_7 : wr.cell? ⟨gb180, 7, none⟩ = some (.int .i64 a0_7) := (zaa BK180.out 7).trans rfl
        have hcz78_8 : wr.cell? ⟨gb180, 8, none⟩ = some (.int .i64 a0_8) := (zaa BK180.out 8).trans rfl
        have hcz78_9 : wr.cell? ⟨gb180, 9, none⟩ = some (.slice A0_9 l0_9.length c0_9) := (zaa BK180.out 9).trans rfl
        have hcz78_10 : wr.cell? ⟨gb180, 10, none⟩ = some (.int .i64 a0_10) := (zaa BK180.out 10).trans rfl
        have hcz78_11 : wr.cell? ⟨gb180, 11, none⟩ = some (.int .i64 a0_11) := (zaa BK180.out 11).trans rfl
        have hcz78_12 : wr.cell? ⟨gb180, 12, none⟩ = some (.slice A0_12 l0_12.length c0_12) := (zaa BK180.out 12).trans rfl
        have hcz78_13 : wr.cell? ⟨gb180, 13, none⟩ = some (.string a0_13) := (zaa BK180.out 13).trans rfl
        have hfz78_0 := zab BK180.out 0
        have hfz78_1 := zab BK180.out 1
        have hfz78_2 := zab BK180.out 2
        have hfz78_3 := zab BK180.out 3
        have hfz78_4 := zab BK180.out 4
        have hfz78_5 := zab BK180.out 5
        have hfz78_6 := zab BK180.out 6
        have hfz78_7 := zab BK180.out 7
        have hfz78_8 := zab BK180.out 8
        have hfz78_9 := zab BK180.out 9
        have hfz78_10 := zab BK180.out 10
        have hfz78_11 := zab BK180.out 11
        have hfz78_12 := zab BK180.out 12
        have hfz78_13 := zab BK180.out 13
        obtain ⟨Ao79, co79, eo79⟩ := Kd.zbu HO_5.out
        subst eo79
        go_wp2_with (first | ((with_reducible refine zbe (f := 55) rfl ?_); refine zcg (some 93) rfl rfl Try.func55 (by kernel_rfl) rfl #[.slice Ao79 x5_3.length co79, .int .i64 a0_10] rfl (by (try simp only [List.map_toArray, List.map_cons, List.map_nil]); first | done | rfl | (simp only [List.length_drop, List.length_take]; rfl)) ?_; (with_reducible refine (zal.calls k3 (fun k_ => some k_ = (.slice Ao79 x5_3.length co79 : Value).ownBlock) (.slice Ao79 x5_3.length co79) x5_3 a0_10 t232 w _ ?side1 ?side2 A75.out).mono ?_); (case side1 => repeat (first | (with_reducible first | exact HB.out | apply zad | apply zac | apply zae | refine zah ?_ GE180.out) | exact HB.out)); (case side2 => exact Kd.zct rfl HO_5.out); rintro e w80 ⟨v233, rfl, ho0, hb, hkp⟩; refine ⟨_, rfl, ?_⟩; have n0_ := Aside0.mk (zbr (by (with_reducible repeat (first | refine zag ?_ _ | refine zai ?_ | refine zaf ?_ _)); exact BK180.out) hkp (fun hs_ => (fun e_ => (Kd.R_ne HO_5.out BK180.out (by decide)) e_) hs_)); have n1_ := Aside0.mk (Kd.zbh (ok' := fun k_ => True) ho0 (fun k_ hk_ => trivial)); have n2_ := Aside0.mk (hb); clear BK180; clear HB; clear HO_5; have BK180 := n0_; have HO234 := n1_; have HB := n2_; clear n0_ n1_ n2_; (try clear hb); (try clear hkp); (try clear ho0); have hcz81_0 : w80.cell? ⟨gb180, 0, none⟩ = some (.int .i64 a0_0) := (zaa BK180.out 0).trans rfl; have hcz81_1 : w80.cell? ⟨gb180, 1, none⟩ = some (.int .i64 a0_1) := (zaa BK180.out 1).trans rfl; have hcz81_2 : w80.cell? ⟨gb180, 2, none⟩ = some (.int .i64 a0_2) := (zaa BK180.out 2).trans rfl; have hcz81_3 : w80.cell? ⟨gb180, 3, none⟩ = some (.int .i64 a0_3) := (zaa BK180.out 3).trans rfl; have hcz81_4 : w80.cell? ⟨gb180, 4, none⟩ = some (.int .i64 a0_4) := (zaa BK180.out 4).trans rfl; have hcz81_5 : w80.cell? ⟨gb180, 5, none⟩ = some (.int .i64 a0_5) := (zaa BK180.out 5).trans rfl; have hcz81_6 : w80.cell? ⟨gb180, 6, none⟩ = some (.bool a0_6) := (zaa BK180.out 6).trans rfl; have hcz81_7 : w80.cell? ⟨gb180, 7, none⟩ = some (.int .i64 a0_7) := (zaa BK180.out 7).trans rfl; have hcz81_8 : w80.cell? ⟨gb180, 8, none⟩ = some (.int .i64 a0_8) := (zaa BK180.out 8).trans rfl; have hcz81_9 : w80.cell? ⟨gb180, 9, none⟩ = some (.slice A0_9 l0_9.length c0_9) := (zaa BK180.out 9).trans rfl; have hcz81_10 : w80.cell? ⟨gb180, 10, none⟩ = some (.int .i64 a0_10) := (zaa BK180.out 10).trans rfl; have hcz81_11 : w80.cell? ⟨gb180, 11, none⟩ = some (.int .i64 a0_11) := (zaa BK180.out 11).trans rfl; have hcz81_12 : w80.cell? ⟨gb180, 12, none⟩ = some (.slice A0_12 l0_12.length c0_12) := (zaa BK180.out 12).trans rfl; have hcz81_13 : w80.cell? ⟨gb180, 13, none⟩ = some (.string a0_13) := (zaa BK180.out 13).trans rfl; have hfz81_0 := zab BK180.out 0; have hfz81_1 := zab BK180.out 1; have hfz81_2 := zab BK180.out 2; have hfz81_3 := zab BK180.out 3; have hfz81_4 := zab BK180.out 4; have hfz81_5 := zab BK180.out 5; have hfz81_6 := zab BK180.out 6; have hfz81_7 := zab BK180.out 7; have hfz81_8 := zab BK180.out 8; have hfz81_9 := zab BK180.out 9; have hfz81_10 := zab BK180.out 10; have hfz81_11 := zab BK180.out 11; have hfz81_12 := zab BK180.out 12; have hfz81_13 := zab BK180.out 13; obtain ⟨Ao82, co82, eo82⟩ := Kd.zbu HO234.out; subst eo82) | ((with_reducible refine zbe (f := 55) rfl ?_); refine zcg (some 98) rfl rfl Try.func55 (by kernel_rfl) rfl #[.slice Ao82 t232.length co82, .int .i64 a0_11] rfl (by (try simp only [List.map_toArray, List.map_cons, List.map_nil]); first | done | rfl | (simp only [List.length_drop, List.length_take]; rfl)) ?_; (with_reducible refine (zal.calls k3 (fun k_ => some k_ = (.slice Ao82 t232.length co82 : Value).ownBlock) (.slice Ao82 t232.length co82) t232 a0_11 t235 w _ ?side1 ?side2 A76.out).mono ?_); (case side1 => repeat (first | (with_reducible first | exact HB.out | apply zad | apply zac | apply zae | refine zah ?_ GE180.out) | exact HB.out)); (case side2 => exact Kd.zct rfl HO234.out); rintro e w83 ⟨v236, rfl, ho0, hb, hkp⟩; refine ⟨_, rfl, ?_⟩; have n0_ := Aside0.mk (zbr (by (with_reducible repeat (first | refine zag ?_ _ | refine zai ?_ | refine zaf ?_ _)); exact BK180.out) hkp (fun hs_ => (fun e_ => (Kd.R_ne HO234.out BK180.out (by decide)) e_) hs_)); have n1_ := Aside0.mk (Kd.zbh (ok' := fun k_ => True) ho0 (fun k_ hk_ => trivial)); have n2_ := Aside0.mk (hb); clear BK180; clear HB; clear HO234; have BK180 := n0_; have HO237 := n1_; have HB := n2_; clear n0_ n1_ n2_; (try clear hb); (try clear hkp); (try clear ho0); have hcz84_0 : w83.cell? ⟨gb180, 0, none⟩ = some (.int .i64 a0_0) := (zaa BK180.out 0).trans rfl; have hcz84_1 : w83.cell? ⟨gb180, 1, none⟩ = some (.int .i64 a0_1) := (zaa BK180.out 1).trans rfl; have hcz84_2 : w83.cell? ⟨gb180, 2, none⟩ = some (.int .i64 a0_2) := (zaa BK180.out 2).trans rfl; have hcz84_3 : w83.cell? ⟨gb180, 3, none⟩ = some (.int .i64 a0_3) := (zaa BK180.out 3).trans rfl; have hcz84_4 : w83.cell? ⟨gb180, 4, none⟩ = some (.int .i64 a0_4) := (zaa BK180.out 4).trans rfl; have hcz84_5 : w83.cell? ⟨gb180, 5, none⟩ = some (.int .i64 a0_5) := (zaa BK180.out 5).trans rfl; have hcz84_6 : w83.cell? ⟨gb180, 6, none⟩ = some (.bool a0_6) := (zaa BK180.out 6).trans rfl; have hcz84_7 : w83.cell? ⟨gb180, 7, none⟩ = some (.int .i64 a0_7) := (zaa BK180.out 7).trans rfl; have hcz84_8 : w83.cell? ⟨gb180, 8, none⟩ = some (.int .i64 a0_8) := (zaa BK180.out 8).trans rfl; have hcz84_9 : w83.cell? ⟨gb180, 9, none⟩ = some (.slice A0_9 l0_9.length c0_9) := (zaa BK180.out 9).trans rfl; have hcz84_10 : w83.cell? ⟨gb180, 10, none⟩ = some (.int .i64 a0_10) := (zaa BK180.out 10).trans rfl; have hcz84_11 : w83.cell? ⟨gb180, 11, none⟩ = some (.int .i64 a0_11) := (zaa BK180.out 11).trans rfl; have hcz84_12 : w83.cell? ⟨gb180, 12, none⟩ = some (.slice A0_12 l0_12.length c0_12) := (zaa BK180.out 12).trans rfl; have hcz84_13 : w83.cell? ⟨gb180, 13, none⟩ = some (.string a0_13) := (zaa BK180.out 13).trans rfl; have hfz84_0 := zab BK180.out 0; have hfz84_1 := zab BK180.out 1; have hfz84_2 := zab BK180.out 2; have hfz84_3 := zab BK180.out 3; have hfz84_4 := zab BK180.out 4; have hfz84_5 := zab BK180.out 5; have hfz84_6 := zab BK180.out 6; have hfz84_7 := zab BK180.out 7; have hfz84_8 := zab BK180.out 8; have hfz84_9 := zab BK180.out 9; have hfz84_10 := zab BK180.out 10; have hfz84_11 := zab BK180.out 11; have hfz84_12 := zab BK180.out 12; have hfz84_13 := zab BK180.out 13; obtain ⟨Ao85, co85, eo85⟩ := Kd.zbu HO237.out; subst eo85) | ((with_reducible refine zbe (f := 55) rfl ?_); refine zcg (some 104) rfl rfl Try.func55 (by kernel_rfl) rfl #[.slice Ao85 t235.length co85, .int .i64 (l0_12.length : Int)] rfl (by (try simp only [List.map_toArray, List.map_cons, List.map_nil]); first | done | rfl | (simp only [List.length_drop, List.length_take]; rfl)) ?_; (with_reducible refine (zal.calls k3 (fun k_ => some k_ = (.slice Ao85 t235.length co85 : Value).ownBlock) (.slice Ao85 t235.length co85) t235 (l0_12.length : Int) t238 w _ ?side1 ?side2 A77.out).mono ?_); (case side1 => repeat (first | (with_reducible first | exact HB.out | apply zad | apply zac | apply zae | refine zah ?_ GE180.out) | exact HB.out)); (case side2 => exact Kd.zct rfl HO237.out); rintro e w86 ⟨v239, rfl, ho0, hb, hkp⟩; refine ⟨_, rfl, ?_⟩; have n0_ := Aside0.mk (zbr (by (with_reducible repeat (first | refine zag ?_ _ | refine zai ?_ | refine zaf ?_ _)); exact BK180.out) hkp (fun hs_ => (fun e_ => (Kd.R_ne HO237.out BK180.out (by decide)) e_) hs_)); have n1_ := Aside0.mk (Kd.zbh (ok' := fun k_ => True) ho0 (fun k_ hk_ => trivial)); have n2_ := Aside0.mk (hb); clear BK180; clear HB; clear HO237; have BK180 := n0_; have HO240 := n1_; have HB := n2_; clear n0_ n1_ n2_; (try clear hb); (try clear hkp); (try clear ho0); have hcz87_0 : w86.cell? ⟨gb180, 0, none⟩ = some (.int .i64 a0_0) := (zaa BK180.out 0).trans rfl; have hcz87_1 : w86.cell? ⟨gb180, 1, none⟩ = some (.int .i64 a0_1) := (zaa BK180.out 1).trans rfl; have hcz87_2 : w86.cell? ⟨gb180, 2, none⟩ = some (.int .i64 a0_2) := (zaa BK180.out 2).trans rfl; have hcz87_3 : w86.cell? ⟨gb180, 3, none⟩ = some (.int .i64 a0_3) := (zaa BK180.out 3).trans rfl; have hcz87_4 : w86.cell? ⟨gb180, 4, none⟩ = some (.int .i64 a0_4) := (zaa BK180.out 4).trans rfl; have hcz87_5 : w86.cell? ⟨gb180, 5, none⟩ = some (.int .i64 a0_5) := (zaa BK180.out 5).trans rfl; have hcz87_6 : w86.cell? ⟨gb180, 6, none⟩ = some (.bool a0_6) := (zaa BK180.out 6).trans rfl; have hcz87_7 : w86.cell? ⟨gb180, 7, none⟩ = some (.int .i64 a0_7) := (zaa BK180.out 7).trans rfl; have hcz87_8 : w86.cell? ⟨gb180, 8, none⟩ = some (.int .i64 a0_8) := (zaa BK180.out 8).trans rfl; have hcz87_9 : w86.cell? ⟨gb180, 9, none⟩ = some (.slice A0_9 l0_9.length c0_9) := (zaa BK180.out 9).trans rfl; have hcz87_10 : w86.cell? ⟨gb180, 10, none⟩ = some (.int .i64 a0_10) := (zaa BK180.out 10).trans rfl; have hcz87_11 : w86.cell? ⟨gb180, 11, none⟩ = some (.int .i64 a0_11) := (zaa BK180.out 11).trans rfl; have hcz87_12 : w86.cell? ⟨gb180, 12, none⟩ = some (.slice A0_12 l0_12.length c0_12) := (zaa BK180.out 12).trans rfl; have hcz87_13 : w86.cell? ⟨gb180, 13, none⟩ = some (.string a0_13) := (zaa BK180.out 13).trans rfl; have hfz87_0 := zab BK180.out 0; have hfz87_1 := zab BK180.out 1; have hfz87_2 := zab BK180.out 2; have hfz87_3 := zab BK180.out 3; have hfz87_4 := zab BK180.out 4; have hfz87_5 := zab BK180.out 5; have hfz87_6 := zab BK180.out 6; have hfz87_7 := zab BK180.out 7; have hfz87_8 := zab BK180.out 8; have hfz87_9 := zab BK180.out 9; have hfz87_10 := zab BK180.out 10; have hfz87_11 := zab BK180.out 11; have hfz87_12 := zab BK180.out 12; have hfz87_13 := zab BK180.out 13))
        go_loopg [5, 109] k3 (fun kq v5 v109 w' => ∃ (x5_4 : List Int) (x109_4 : Int), v109 = .int .i64 x109_4 ∧ Aside0 (zam.l1 kq x4_3 x5_4 l0_12 (l0_12.length : Int) x109_4 a0_0 a0_1 a0_2 a0_3 a0_4 a0_5 a0_6 a0_7 a0_8 l0_9 a0_10 a0_11 l0_12 a0_13 = some (r1, r2)) ∧ Aside0 (kq ≤ k3) ∧ Aside0 (Kd.R (Kd.int .u8) 5 w' w.heap.size (fun _ => True) v5 x5_4) ∧ Aside0 (w'.heap[gb180]? = some (.cells #[.int .i64 a0_0, .int .i64 a0_1, .int .i64 a0_2, .int .i64 a0_3, .int .i64 a0_4, .int .i64 a0_5, .bool a0_6, .int .i64 a0_7, .int .i64 a0_8, (.slice A0_9 l0_9.length c0_9), .int .i64 a0_10, .int .i64 a0_11, (.slice A0_12 l0_12.length c0_12), .string a0_13] 66 (0, 0))) ∧ Aside0 (Below w.heap.size w w'))
        case atStart => exact ⟨(t238), (0), (by first | rfl | (simp; done) | (simp [*]; done)), H', ⟨Nat.le_refl _⟩, ⟨by (with_reducible repeat (first | apply Kd.zbb | apply Kd.zba | apply Kd.zbf)); exact HO240.out⟩, ⟨by (with_reducible repeat (first | refine zag ?_ _ | refine zai ?_ | refine zaf ?_ _)); exact BK180.out⟩, ⟨by repeat (first | (with_reducible first | exact HB.out | apply zad | apply zac | apply zae | refine zah ?_ GE180.out) | exact HB.out)⟩⟩
        case round =>
         clear H'
         try clear c2
         try clear p2
         try clear q2
         try clear hx2
         try clear c3
         try clear c4
         try clear c4b0
         try clear c5
         try clear c6
         try clear p6
         try clear c21
         try clear p21
         try clear q21
         try clear hx21
         try clear c24
         try clear c29
         try clear c32
         try clear c33
         try clear c35
         try clear c50
         try clear c50b0
         try clear c51
         try clear c51b0
         try clear c52
         try clear c52b0
         try clear c54
         try clear c55
         try clear c56
         try clear c58
         try clear p64
         try clear c66
         try clear c68
         try clear hcz13_0
         try clear hcz13_1
         try clear hcz13_10
         try clear hcz13_11
         try clear hcz13_12
         try clear hcz13_13
         try clear hcz13_2
         try clear hcz13_3
         try clear hcz13_4
         try clear hcz13_5
         try clear hcz13_6
         try clear hcz13_7
         try clear hcz13_8
         try clear hcz13_9
         try clear hcz16_0
         try clear hcz16_1
         try clear hcz16_10
         try clear hcz16_11
         try clear hcz16_12
         try clear hcz16_13
         try clear hcz16_2
         try clear hcz16_3
         try clear hcz16_4
         try clear hcz16_5
         try clear hcz16_6
         try clear hcz16_7
         try clear hcz16_8
         try clear hcz16_9
         try clear hcz19_0
         try clear hcz19_1
         try clear hcz19_10
         try clear hcz19_11
         try clear hcz19_12
         try clear hcz19_13
         try clear hcz19_2
         try clear hcz19_3
         try clear hcz19_4
         try clear hcz19_5
         try clear hcz19_6
         try clear hcz19_7
         try clear hcz19_8
         try clear hcz19_9
         try clear hcz22_0
         try clear hcz22_1
         try clear hcz22_10
         try clear hcz22_11
         try clear hcz22_12
         try clear hcz22_13
         try clear hcz22_2
         try clear hcz22_3
         try clear hcz22_4
         try clear hcz22_5
         try clear hcz22_6
         try clear hcz22_7
         try clear hcz22_8
         try clear hcz22_9
         try clear hcz25_0
         try clear hcz25_1
         try clear hcz25_10
         try clear hcz25_11
         try clear hcz25_12
         try clear hcz25_13
         try clear hcz25_2
         try clear hcz25_3
         try clear hcz25_4
         try clear hcz25_5
         try clear hcz25_6
         try clear hcz25_7
         try clear hcz25_8
         try clear hcz25_9
         try clear hcz28_0
         try clear hcz28_1
         try clear hcz28_10
         try clear hcz28_11
         try clear hcz28_12
         try clear hcz28_13
         try clear hcz28_2
         try clear hcz28_3
         try clear hcz28_4
         try clear hcz28_5
         try clear hcz28_6
         try clear hcz28_7
         try clear hcz28_8
         try clear hcz28_9
         try clear hcz31_0
         try clear hcz31_1
         try clear hcz31_10
         try clear hcz31_11
         try clear hcz31_12
         try clear hcz31_13
         try clear hcz31_2
         try clear hcz31_3
         try clear hcz31_4
         try clear hcz31_5
         try clear hcz31_6
         try clear hcz31_7
         try clear hcz31_8
         try clear hcz31_9
         try clear hcz40_0
         try clear hcz40_1
         try clear hcz40_10
         try clear hcz40_11
         try clear hcz40_12
         try clear hcz40_13
         try clear hcz40_2
         try clear hcz40_3
         try clear hcz40_4
         try clear hcz40_5
         try clear hcz40_6
         try clear hcz40_7
         try clear hcz40_8
         try clear hcz40_9
         try clear hcz43_0
         try clear hcz43_1
         try clear hcz43_10
         try clear hcz43_11
         try clear hcz43_12
         try clear hcz43_13
         try clear hcz43_2
         try clear hcz43_3
         try clear hcz43_4
         try clear hcz43_5
         try clear hcz43_6
         try clear hcz43_7
         try clear hcz43_8
         try clear hcz43_9
         try clear hcz46_0
         try clear hcz46_1
         try clear hcz46_10
         try clear hcz46_11
         try clear hcz46_12
         try clear hcz46_13
         try clear hcz46_2
         try clear hcz46_3
         try clear hcz46_4
         try clear hcz46_5
         try clear hcz46_6
         try clear hcz46_7
         try clear hcz46_8
         try clear hcz46_9
         try clear hcz49_0
         try clear hcz49_1
         try clear hcz49_10
         try clear hcz49_11
         try clear hcz49_12
         try clear hcz49_13
         try clear hcz49_2
         try clear hcz49_3
         try clear hcz49_4
         try clear hcz49_5
         try clear hcz49_6
         try clear hcz49_7
         try clear hcz49_8
         try clear hcz49_9
         try clear hcz59_0
         try clear hcz59_1
         try clear hcz59_10
         try clear hcz59_11
         try clear hcz59_12
         try clear hcz59_13
         try clear hcz59_2
         try clear hcz59_3
         try clear hcz59_4
         try clear hcz59_5
         try clear hcz59_6
         try clear hcz59_7
         try clear hcz59_8
         try clear hcz59_9
         try clear hcz5_0
         try clear hcz5_1
         try clear hcz5_10
         try clear hcz5_11
         try clear hcz5_12
         try clear hcz5_13
         try clear hcz5_2
         try clear hcz5_3
         try clear hcz5_4
         try clear hcz5_5
         try clear hcz5_6
         try clear hcz5_7
         try clear hcz5_8
         try clear hcz5_9
         try clear hcz69_0
         try clear hcz69_1
         try clear hcz69_10
         try clear hcz69_11
         try clear hcz69_12
         try clear hcz69_13
         try clear hcz69_2
         try clear hcz69_3
         try clear hcz69_4
         try clear hcz69_5
         try clear hcz69_6
         try clear hcz69_7
         try clear hcz69_8
         try clear hcz69_9
         try clear hcz6_0
         try clear hcz6_1
         try clear hcz6_10
         try clear hcz6_11
         try clear hcz6_12
         try clear hcz6_13
         try clear hcz6_2
         try clear hcz6_3
         try clear hcz6_4
         try clear hcz6_5
         try clear hcz6_6
         try clear hcz6_7
         try clear hcz6_8
         try clear hcz6_9
         try clear hcz78_0
         try clear hcz78_1
         try clear hcz78_10
         try clear hcz78_11
         try clear hcz78_12
         try clear hcz78_13
         try clear hcz78_2
         try clear hcz78_3
         try clear hcz78_4
         try clear hcz78_5
         try clear hcz78_6
         try clear hcz78_7
         try clear hcz78_8
         try clear hcz78_9
         try clear hcz81_0
         try clear hcz81_1
         try clear hcz81_10
         try clear hcz81_11
         try clear hcz81_12
         try clear hcz81_13
         try clear hcz81_2
         try clear hcz81_3
         try clear hcz81_4
         try clear hcz81_5
         try clear hcz81_6
         try clear hcz81_7
         try clear hcz81_8
         try clear hcz81_9
         try clear hcz84_0
         try clear hcz84_1
         try clear hcz84_10
         try clear hcz84_11
         try clear hcz84_12
         try clear hcz84_13
         try clear hcz84_2
         try clear hcz84_3
         try clear hcz84_4
         try clear hcz84_5
         try clear hcz84_6
         try clear hcz84_7
         try clear hcz84_8
         try clear hcz84_9
         try clear hcz87_0
         try clear hcz87_1
         try clear hcz87_10
         try clear hcz87_11
         try clear hcz87_12
         try clear hcz87_13
         try clear hcz87_2
         try clear hcz87_3
         try clear hcz87_4
         try clear hcz87_5
         try clear hcz87_6
         try clear hcz87_7
         try clear hcz87_8
         try clear hcz87_9
         try clear hfz13_0
         try clear hfz13_1
         try clear hfz13_10
         try clear hfz13_11
         try clear hfz13_12
         try clear hfz13_13
         try clear hfz13_2
         try clear hfz13_3
         try clear hfz13_4
         try clear hfz13_5
         try clear hfz13_6
         try clear hfz13_7
         try clear hfz13_8
         try clear hfz13_9
         try clear hfz16_0
         try clear hfz16_1
         try clear hfz16_10
         try clear hfz16_11
         try clear hfz16_12
         try clear hfz16_13
         try clear hfz16_2
         try clear hfz16_3
         try clear hfz16_4
         try clear hfz16_5
         try clear hfz16_6
         try clear hfz16_7
         try clear hfz16_8
         try clear hfz16_9
         try clear hfz19_0
         try clear hfz19_1
         try clear hfz19_10
         try clear hfz19_11
         try clear hfz19_12
         try clear hfz19_13
         try clear hfz19_2
         try clear hfz19_3
         try clear hfz19_4
         try clear hfz19_5
         try clear hfz19_6
         try clear hfz19_7
         try clear hfz19_8
         try clear hfz19_9
         try clear hfz22_0
         try clear hfz22_1
         try clear hfz22_10
         try clear hfz22_11
         try clear hfz22_12
         try clear hfz22_13
         try clear hfz22_2
         try clear hfz22_3
         try clear hfz22_4
         try clear hfz22_5
         try clear hfz22_6
         try clear hfz22_7
         try clear hfz22_8
         try clear hfz22_9
         try clear hfz25_0
         try clear hfz25_1
         try clear hfz25_10
         try clear hfz25_11
         try clear hfz25_12
         try clear hfz25_13
         try clear hfz25_2
         try clear hfz25_3
         try clear hfz25_4
         try clear hfz25_5
         try clear hfz25_6
         try clear hfz25_7
         try clear hfz25_8
         try clear hfz25_9
         try clear hfz28_0
         try clear hfz28_1
         try clear hfz28_10
         try clear hfz28_11
         try clear hfz28_12
         try clear hfz28_13
         try clear hfz28_2
         try clear hfz28_3
         try clear hfz28_4
         try clear hfz28_5
         try clear hfz28_6
         try clear hfz28_7
         try clear hfz28_8
         try clear hfz28_9
         try clear hfz31_0
         try clear hfz31_1
         try clear hfz31_10
         try clear hfz31_11
         try clear hfz31_12
         try clear hfz31_13
         try clear hfz31_2
         try clear hfz31_3
         try clear hfz31_4
         try clear hfz31_5
         try clear hfz31_6
         try clear hfz31_7
         try clear hfz31_8
         try clear hfz31_9
         try clear hfz40_0
         try clear hfz40_1
         try clear hfz40_10
         try clear hfz40_11
         try clear hfz40_12
         try clear hfz40_13
         try clear hfz40_2
         try clear hfz40_3
         try clear hfz40_4
         try clear hfz40_5
         try clear hfz40_6
         try clear hfz40_7
         try clear hfz40_8
         try clear hfz40_9
         try clear hfz43_0
         try clear hfz43_1
         try clear hfz43_10
         try clear hfz43_11
         try clear hfz43_12
         try clear hfz43_13
         try clear hfz43_2
         try clear hfz43_3
         try clear hfz43_4
         try clear hfz43_5
         try clear hfz43_6
         try clear hfz43_7
         try clear hfz43_8
         try clear hfz43_9
         try clear hfz46_0
         try clear hfz46_1
         try clear hfz46_10
         try clear hfz46_11
         try clear hfz46_12
         try clear hfz46_13
         try clear hfz46_2
         try clear hfz46_3
         try clear hfz46_4
         try clear hfz46_5
         try clear hfz46_6
         try clear hfz46_7
         try clear hfz46_8
         try clear hfz46_9
         try clear hfz49_0
         try clear hfz49_1
         try clear hfz49_10
         try clear hfz49_11
         try clear hfz49_12
         try clear hfz49_13
         try clear hfz49_2
         try clear hfz49_3
         try clear hfz49_4
         try clear hfz49_5
         try clear hfz49_6
         try clear hfz49_7
         try clear hfz49_8
         try clear hfz49_9
         try clear hfz59_0
         try clear hfz59_1
         try clear hfz59_10
         try clear hfz59_11
         try clear hfz59_12
         try clear hfz59_13
         try clear hfz59_2
         try clear hfz59_3
         try clear hfz59_4
         try clear hfz59_5
         try clear hfz59_6
         try clear hfz59_7
         try clear hfz59_8
         try clear hfz59_9
         try clear hfz5_0
         try clear hfz5_1
         try clear hfz5_10
         try clear hfz5_11
         try clear hfz5_12
         try clear hfz5_13
         try clear hfz5_2
         try clear hfz5_3
         try clear hfz5_4
         try clear hfz5_5
         try clear hfz5_6
         try clear hfz5_7
         try clear hfz5_8
         try clear hfz5_9
         try clear hfz69_0
         try clear hfz69_1
         try clear hfz69_10
         try clear hfz69_11
         try clear hfz69_12
         try clear hfz69_13
         try clear hfz69_2
         try clear hfz69_3
         try clear hfz69_4
         try clear hfz69_5
         try clear hfz69_6
         try clear hfz69_7
         try clear hfz69_8
         try clear hfz69_9
         try clear hfz6_0
         try clear hfz6_1
         try clear hfz6_10
         try clear hfz6_11
         try clear hfz6_12
         try clear hfz6_13
         try clear hfz6_2
         try clear hfz6_3
         try clear hfz6_4
         try clear hfz6_5
         try clear hfz6_6
         try clear hfz6_7
         try clear hfz6_8
         try clear hfz6_9
         try clear hfz78_0
         try clear hfz78_1
         try clear hfz78_10
         try clear hfz78_11
         try clear hfz78_12
         try clear hfz78_13
         try clear hfz78_2
         try clear hfz78_3
         try clear hfz78_4
         try clear hfz78_5
         try clear hfz78_6
         try clear hfz78_7
         try clear hfz78_8
         try clear hfz78_9
         try clear hfz81_0
         try clear hfz81_1
         try clear hfz81_10
         try clear hfz81_11
         try clear hfz81_12
         try clear hfz81_13
         try clear hfz81_2
         try clear hfz81_3
         try clear hfz81_4
         try clear hfz81_5
         try clear hfz81_6
         try clear hfz81_7
         try clear hfz81_8
         try clear hfz81_9
         try clear hfz84_0
         try clear hfz84_1
         try clear hfz84_10
         try clear hfz84_11
         try clear hfz84_12
         try clear hfz84_13
         try clear hfz84_2
         try clear hfz84_3
         try clear hfz84_4
         try clear hfz84_5
         try clear hfz84_6
         try clear hfz84_7
         try clear hfz84_8
         try clear hfz84_9
         try clear hfz87_0
         try clear hfz87_1
         try clear hfz87_10
         try clear hfz87_11
         try clear hfz87_12
         try clear hfz87_13
         try clear hfz87_2
         try clear hfz87_3
         try clear hfz87_4
         try clear hfz87_5
         try clear hfz87_6
         try clear hfz87_7
         try clear hfz87_8
         try clear hfz87_9
         try clear hx214_0
         try clear hx214_1
         try clear hx214_10
         try clear hx214_11
         try clear hx214_12
         try clear hx214_13
         try clear hx214_2
         try clear hx214_3
         try clear hx214_4
         try clear hx214_5
         try clear hx214_6
         try clear hx214_7
         try clear hx214_8
         try clear hx214_9
         try clear p2
         try clear p214
         try clear q214
         obtain ⟨x5_4, x109_4, rfl, HA, HK4, HO_5, BK180, HB⟩ := hrel
         cases gk with
         | zero => exact absurd HA.out (by simp [zam.l1])
         | succ k4 =>
          have H := HA.out
          clear HA
          simp only [zam.l1] at H
          by_cases c88 : x109_4 < (l0_12.length : Int)
          ·rw [if_pos c88] at H
           have c88b0 : decide (x109_4 < (l0_12.length : Int)) = true := decide_eq_true c88
           clear c88
           by_cases c89 : 0 ≤ x109_4
           ·rw [if_pos c89] at H
            have c89b0 : decide (0 ≤ x109_4) = true := decide_eq_true c89
            clear c89
            by_cases c90 : x109_4 < (l0_12.length : Int)
            ·rw [if_pos c90] at H
             have c90b0 : decide (x109_4 < (l0_12.length : Int)) = true := decide_eq_true c90
             clear c90
             replace H := Option.bind_eq_some_iff.mp H
             obtain ⟨t242, A910, H⟩ := H
             replace H : (zam.l1 k4 x4_3 t242 l0_12 (l0_12.length : Int) (wrap64 (x109_4 + 1)) a0_0 a0_1 a0_2 a0_3 a0_4 a0_5 a0_6 a0_7 a0_8 l0_9 a0_10 a0_11 l0_12 a0_13) = some (r1, r2) := H
             have A91 := Aside0.mk A910
             clear A910
             have H' := Aside0.mk H
             clear H
             have p241 : 0 ≤ (x109_4 : Int) := of_decide_eq_true (by first | (with_reducible assumption) | assumption)
             have q241 : x109_4 < (l0_12.length : Int) := of_decide_eq_true (by first | (with_reducible assumption) | assumption)
             obtain ⟨ad241, e241, hx241_0⟩ := Kd.zfg HR0_12.out x109_4 p241 q241
             cases e241
             replace hx241_0 := (HB.out.cell (World.block_lt_of_cell? w _ hx241_0)).trans hx241_0
             replace p241 := eq_true p241
             replace q241 := eq_true q241
             obtain ⟨Ao92, co92, eo92⟩ := Kd.zbu HO_5.out
             subst eo92
             go_wp2_with (first | ((with_reducible refine zbe (f := 55) rfl ?_); refine zcg (some 115) rfl rfl Try.func55 (by kernel_rfl) rfl #[.slice Ao92 x5_4.length co92, .int .i64 (rd l0_12 x109_4)] rfl (by (try simp only [List.map_toArray, List.map_cons, List.map_nil]); first | done | rfl | (simp only [List.length_drop, List.length_take]; rfl)) ?_; (with_reducible refine (zal.calls k4 (fun k_ => some k_ = (.slice Ao92 x5_4.length co92 : Value).ownBlock) (.slice Ao92 x5_4.length co92) x5_4 (rd l0_12 x109_4) t242 w _ ?side1 ?side2 A91.out).mono ?_); (case side1 => repeat (first | (with_reducible first | exact HB.out | apply zad | apply zac | apply zae | refine zah ?_ GE180.out) | exact HB.out)); (case side2 => exact Kd.zct rfl HO_5.out); rintro e w93 ⟨v243, rfl, ho0, hb, hkp⟩; refine ⟨_, rfl, ?_⟩; have n0_ := Aside0.mk (zbr (by (with_reducible repeat (first | refine zag ?_ _ | refine zai ?_ | refine zaf ?_ _)); exact BK180.out) hkp (fun hs_ => (fun e_ => (Kd.R_ne HO_5.out BK180.out (by decide)) e_) hs_)); have n1_ := Aside0.mk (Kd.zbh (ok' := fun k_ => True) ho0 (fun k_ hk_ => trivial)); have n2_ := Aside0.mk (hb); clear BK180; clear HB; clear HO_5; have BK180 := n0_; have HO244 := n1_; have HB := n2_; clear n0_ n1_ n2_; (try clear hb); (try clear hkp); (try clear ho0)))
             go_roundg k4
             case measure => have := HJ1.out; have := HJ11.out; have := HK3.out; have := HK4.out; omega
             case rel => exact ⟨(t242), (wrap64 (x109_4 + 1)), (by first | rfl | (simp; done) | (simp [*]; done)), H', ⟨by have := HJ1.out; have := HJ11.out; have := HK3.out; have := HK4.out; omega⟩, ⟨by (with_reducible repeat (first | apply Kd.zbb | apply Kd.zba | apply Kd.zbf)); exact HO244.out⟩, ⟨by (with_reducible repeat (first | refine zag ?_ _ | refine zai ?_ | refine zaf ?_ _)); exact BK180.out⟩, ⟨by repeat (first | (with_reducible first | exact HB.out | apply zad | apply zac | apply zae | refine zah ?_ GE180.out) | exact HB.out)⟩⟩
            ·rw [if_neg c90] at H
             exact absurd H (by simp)
           ·rw [if_neg c89] at H
            exact absurd H (by simp)
          ·rw [if_neg c88] at H
           have c88b0 : decide (x109_4 < (l0_12.length : Int)) = false := decide_eq_false c88
           clear c88
           replace H := Option.bind_eq_some_iff.mp H
           obtain ⟨t245, A940, H⟩ := H
           replace H : (if t245.length + a0_13.size < 140737488355328 then (some ((t245 ++ bytesOf a0_13), x4_3)) else (none)) = some (r1, r2) := H
           have A94 := Aside0.mk A940
           clear A940
           by_cases c95 : t245.length + a0_13.size < 140737488355328
           ·rw [if_pos c95] at H
            have LMc95 := Aside0.mk c95
            clear c95
            obtain ⟨y248, hy248⟩ : ∃ y_ : List Int, y_ = (t245 ++ bytesOf a0_13) := ⟨_, rfl⟩
            replace H : (some (y248, x4_3)) = some (r1, r2) := by first | (rw [hy248]; with_reducible exact H) | (have H2_ := (Option.bind_some _ _).symm.trans H; rw [hy248]; with_reducible exact H2_) | (have H2_ := (Option.bind_some _ _).symm.trans H; with_reducible exact H2_) | with_reducible exact H | (rw [hy248]; exact H) | exact H
            have Ny248 := Aside0.mk hy248
            clear hy248
            simp only [Option.some.injEq, Prod.mk.injEq] at H
            obtain ⟨rfl, rfl⟩ := H
            have hcz96_0 : wr.cell? ⟨gb180, 0, none⟩ = some (.int .i64 a0_0) := (zaa BK180.out 0).trans rfl
            have hcz96_1 : wr.cell? ⟨gb180, 1, none⟩ = some (.int .i64 a0_1) := (zaa BK180.out 1).trans rfl
            have hcz96_2 : wr.cell? ⟨gb180, 2, none⟩ = some (.int .i64 a0_2) := (zaa BK180.out 2).trans rfl
            have hcz96_3 : wr.cell? ⟨gb180, 3, none⟩ = some (.int .i64 a0_3) := (zaa BK180.out 3).trans rfl
            have hcz96_4 : wr.cell? ⟨gb180, 4, none⟩ = some (.int .i64 a0_4) := (zaa BK180.out 4).trans rfl
            have hcz96_5 : wr.cell? ⟨gb180, 5, none⟩ = some (.int .i64 a0_5) := (zaa BK180.out 5).trans rfl
            have hcz96_6 : wr.cell? ⟨gb180, 6, none⟩ = some (.bool a0_6) := (zaa BK180.out 6).trans rfl
            have hcz96_7 : wr.cell? ⟨gb180, 7, none⟩ = some (.int .i64 a0_7) := (zaa BK180.out 7).trans rfl
            have hcz96_8 : wr.cell? ⟨gb180, 8, none⟩ = some (.int .i64 a0_8) := (zaa BK180.out 8).trans rfl
            have hcz96_9 : wr.cell? ⟨gb180, 9, none⟩ = some (.slice A0_9 l0_9.length c0_9) := (zaa BK180.out 9).trans rfl
            have hcz96_10 : wr.cell? ⟨gb180, 10, none⟩ = some (.int .i64 a0_10) := (zaa BK180.out 10).trans rfl
            have hcz96_11 : wr.cell? ⟨gb180, 11, none⟩ = some (.int .i64 a0_11) := (zaa BK180.out 11).trans rfl
            have hcz96_12 : wr.cell? ⟨gb180, 12, none⟩ = some (.slice A0_12 l0_12.length c0_12) := (zaa BK180.out 12).trans rfl
            have hcz96_13 : wr.cell? ⟨gb180, 13, none⟩ = some (.string a0_13) := (zaa BK180.out 13).trans rfl
            have hfz96_0 := zab BK180.out 0
            have hfz96_1 := zab BK180.out 1
            have hfz96_2 := zab BK180.out 2
            have hfz96_3 := zab BK180.out 3
            have hfz96_4 := zab BK180.out 4
            have hfz96_5 := zab BK180.out 5
            have hfz96_6 := zab BK180.out 6
            have hfz96_7 := zab BK180.out 7
            have hfz96_8 := zab BK180.out 8
            have hfz96_9 := zab BK180.out 9
            have hfz96_10 := zab BK180.out 10
            have hfz96_11 := zab BK180.out 11
            have hfz96_12 := zab BK180.out 12
            have hfz96_13 := zab BK180.out 13
            obtain ⟨Ao97, co97, eo97⟩ := Kd.zbu HO_5.out
            subst eo97
            go_wp2_with (first | ((with_reducible refine zbe (f := 55) rfl ?_); refine zcg (some 122) rfl rfl Try.func55 (by kernel_rfl) rfl #[.slice Ao97 x5_4.length co97, .int .i64 (a0_13.size : Int)] rfl (by (try simp only [List.map_toArray, List.map_cons, List.map_nil]); first | done | rfl | (simp only [List.length_drop, List.length_take]; rfl)) ?_; (with_reducible refine (zal.calls k4 (fun k_ => some k_ = (.slice Ao97 x5_4.length co97 : Value).ownBlock) (.slice Ao97 x5_4.length co97) x5_4 (a0_13.size : Int) t245 w _ ?side1 ?side2 A94.out).mono ?_); (case side1 => repeat (first | (with_reducible first | exact HB.out | apply zad | apply zac | apply zae | refine zah ?_ GE180.out) | exact HB.out)); (case side2 => exact Kd.zct rfl HO_5.out); rintro e w98 ⟨v246, rfl, ho0, hb, hkp⟩; refine ⟨_, rfl, ?_⟩; have n0_ := Aside0.mk (zbr (by (with_reducible repeat (first | refine zag ?_ _ | refine zai ?_ | refine zaf ?_ _)); exact BK180.out) hkp (fun hs_ => (fun e_ => (Kd.R_ne HO_5.out BK180.out (by decide)) e_) hs_)); have n1_ := Aside0.mk (Kd.zbh (ok' := fun k_ => True) ho0 (fun k_ hk_ => trivial)); have n2_ := Aside0.mk (hb); clear BK180; clear HB; clear HO_5; have BK180 := n0_; have HO247 := n1_; have HB := n2_; clear n0_ n1_ n2_; (try clear hb); (try clear hkp); (try clear ho0); have hcz99_0 : w98.cell? ⟨gb180, 0, none⟩ = some (.int .i64 a0_0) := (zaa BK180.out 0).trans rfl; have hcz99_1 : w98.cell? ⟨gb180, 1, none⟩ = some (.int .i64 a0_1) := (zaa BK180.out 1).trans rfl; have hcz99_2 : w98.cell? ⟨gb180, 2, none⟩ = some (.int .i64 a0_2) := (zaa BK180.out 2).trans rfl; have hcz99_3 : w98.cell? ⟨gb180, 3, none⟩ = some (.int .i64 a0_3) := (zaa BK180.out 3).trans rfl; have hcz99_4 : w98.cell? ⟨gb180, 4, none⟩ = some (.int .i64 a0_4) := (zaa BK180.out 4).trans rfl; have hcz99_5 : w98.cell? ⟨gb180, 5, none⟩ = some (.int .i64 a0_5) := (zaa BK180.out 5).trans rfl; have hcz99_6 : w98.cell? ⟨gb180, 6, none⟩ = some (.bool a0_6) := (zaa BK180.out 6).trans rfl; have hcz99_7 : w98.cell? ⟨gb180, 7, none⟩ = some (.int .i64 a0_7) := (zaa BK180.out 7).trans rfl; have hcz99_8 : w98.cell? ⟨gb180, 8, none⟩ = some (.int .i64 a0_8) := (zaa BK180.out 8).trans rfl; have hcz99_9 : w98.cell? ⟨gb180, 9, none⟩ = some (.slice A0_9 l0_9.length c0_9) := (zaa BK180.out 9).trans rfl; have hcz99_10 : w98.cell? ⟨gb180, 10, none⟩ = some (.int .i64 a0_10) := (zaa BK180.out 10).trans rfl; have hcz99_11 : w98.cell? ⟨gb180, 11, none⟩ = some (.int .i64 a0_11) := (zaa BK180.out 11).trans rfl; have hcz99_12 : w98.cell? ⟨gb180, 12, none⟩ = some (.slice A0_12 l0_12.length c0_12) := (zaa BK180.out 12).trans rfl; have hcz99_13 : w98.cell? ⟨gb180, 13, none⟩ = some (.string a0_13) := (zaa BK180.out 13).trans rfl; have hfz99_0 := zab BK180.out 0; have hfz99_1 := zab BK180.out 1; have hfz99_2 := zab BK180.out 2; have hfz99_3 := zab BK180.out 3; have hfz99_4 := zab BK180.out 4; have hfz99_5 := zab BK180.out 5; have hfz99_6 := zab BK180.out 6; have hfz99_7 := zab BK180.out 7; have hfz99_8 := zab BK180.out 8; have hfz99_9 := zab BK180.out 9; have hfz99_10 := zab BK180.out 10; have hfz99_11 := zab BK180.out 11; have hfz99_12 := zab BK180.out 12; have hfz99_13 := zab BK180.out 13) | (at_builtin; refine print_append_str (w0 := w) w.heap.size rfl (.tmp 123) _ 27 9 5 rfl Try.underlying27 Try.underlying9 info5 v246 t245 a0_13 rfl rfl ?aO ?aB ?aS ?aL ?_; (case aB => exact (by repeat (first | (with_reducible first | exact HB.out | apply zad | apply zac | apply zae | refine zah ?_ GE180.out) | exact HB.out))); (case aO => exact (Kd.zeh (by (with_reducible repeat (first | apply Kd.zbb | apply Kd.zba | apply Kd.zbf)); exact HO247.out))); (case aS => exact (zaz (by repeat (first | (with_reducible first | exact HB.out | apply zad | apply zac | apply zae | refine zah ?_ GE180.out) | exact HB.out)))); (case aL => have := LMc95.out; omega); intro v249 w100 ho0 hb hg; have ho := Kd.zey (h1 := fun _ => rfl) (ok := fun _ => True) ho0 (fun _ _ => trivial); clear ho0; have hat := True.intro; rw [← Ny248.out] at ho; change Kd.R (Kd.int .u8) 5 w100 w.heap.size (fun _ => True) v249 y248 at ho; have n0_ := Aside0.mk (zbm (g := gb180) (o := .cells #[.int .i64 a0_0, .int .i64 a0_1, .int .i64 a0_2, .int .i64 a0_3, .int .i64 a0_4, .int .i64 a0_5, .bool a0_6, .int .i64 a0_7, .int .i64 a0_8, .slice A0_9 l0_9.length c0_9, .int .i64 a0_10, .int .i64 a0_11, .slice A0_12 l0_12.length c0_12, .string a0_13] 66 (0, 0)) (by (with_reducible repeat (first | refine zag ?_ _ | refine zai ?_ | refine zaf ?_ _)); exact BK180.out) hg (Kd.R_ne HO247.out BK180.out (by decide))); have n1_ := Aside0.mk (hb); have n2_ := Aside0.mk (ho); clear BK180; clear HB; clear HO247; have BK180 := n0_; have HB := n1_; have HO250 := n2_; clear n0_ n1_ n2_; clear ho hb hg hat))
            go_ret2
            exact ⟨_, by first | rfl | (simp [zay, zax] <;> rfl) | (simp [*, zay, zax] <;> rfl), by (with_reducible repeat (first | apply Kd.zbb | apply Kd.zba | apply Kd.zbf)); exact HO250.out, by repeat (first | (with_reducible first | exact HB.out | apply zad | apply zac | apply zae | refine zah ?_ GE180.out) | exact HB.out)⟩
           ·rw [if_neg c95] at H
            exact absurd H (by simp)
end Go.Proofs.Ytjhcbggpbfejgaa.XMsgPuts
