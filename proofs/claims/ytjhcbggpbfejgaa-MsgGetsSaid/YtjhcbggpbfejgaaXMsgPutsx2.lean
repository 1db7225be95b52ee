-- written by wip/xprint.py: the kit's print with functions walked by hand
import Derived.Test.YtjhcbggpbfejgaaXMsgPutsx0
import Derived.Test.YtjhcbggpbfejgaaXMsgPutsx1
namespace Go.Proofs.Ytjhcbggpbfejgaa.XMsgPuts
open Go.RowKit Go.Proofs.zjt.zjq Go.Proofs.zjt.zjr Go.Proofs.zjt.zjs Go.Proofs.Ytjhcbggpbfejgaa.Mk
attribute [local go_sem] zes zeq zfi zfh zdy zdx zer zep   -- for this text's walks alone
set_option linter.unusedVariables false
set_option linter.unusedSimpArgs false
def zaq.l0 : Nat → List Int → List Int → Int → Int → Int → Int → Int → ByteArray → ByteArray → ByteArray → ByteArray → ByteArray → ByteArray → List ByteArray → Int → Int → Int → List Int → Option (List Int × Bool)
 | 0, _, _, _, _, _, _, _, _, _, _, _, _, _, _, _, _, _, _ => none
 | k + 1, x4, x48, x49, x50, x153000, x153001, x153002, x153003, x153004, x153005, x153006, x153007, x153008, x153009, x153010, x153011, x153012, x153013 => if x50 < x49 then (if 0 ≤ x50 then (if x50 < (x48.length : Int) then ((zao.f k x4 (rd x48 x50)).bind fun t173 => (zaq.l0 k t173 x48 x49 (wrap64 (x50 + 1)) x153000 x153001 x153002 x153003 x153004 x153005 x153006 x153007 x153008 x153009 x153010 x153011 x153012 x153013)) else (none)) else (none)) else ((zbp.f x153002 x153003 x153004 x153005 x153006 x153007 x153008 x153009 x153010 x153011 x153012).bind fun t176 => (some (x4, t176)))
def zaq.f (k : Nat) (a0_0 : Int) (a0_1 : Int) (a0_2 : Int) (a0_3 : ByteArray) (a0_4 : ByteArray) (a0_5 : ByteArray) (a0_6 : ByteArray) (a0_7 : ByteArray) (a0_8 : ByteArray) (l0_9 : List ByteArray) (a0_10 : Int) (a0_11 : Int) (a0_12 : Int) (l0_13 : List Int) : Option (List Int × Bool) := (zao.f k ([] : List Int) a0_0).bind fun t153 => ((some (([(a0_1) % 256] : List Int) : List Int)).bind fun y156 => (if t153.length + y156.length < 140737488355328 then ((some (t153 ++ y156 : List Int)).bind fun y159 => (if a0_1 = 0 then ((zbp.f a0_2 a0_3 a0_4 a0_5 a0_6 a0_7 a0_8 l0_9 a0_10 a0_11 a0_12).bind fun t162 => (if t162 = true then (some (y159, ((l0_13.length : Int) == 0))) else (some (y159, false)))) else (if a0_1 = 1 then ((zbc.f k a0_2 a0_3 a0_4 a0_5 a0_6 a0_7 a0_8 l0_9 a0_10 a0_11 a0_12).bind fun t163 => (if y159.length + t163.length < 140737488355328 then (some ((y159 ++ t163), ((l0_13.length : Int) == 0))) else (none))) else (if a0_1 = 2 then ((zao.f k y159 (l0_13.length : Int)).bind fun t169 => (zaq.l0 k t169 l0_13 (l0_13.length : Int) 0 a0_0 a0_1 a0_2 a0_3 a0_4 a0_5 a0_6 a0_7 a0_8 l0_9 a0_10 a0_11 a0_12 l0_13)) else (some (([] : List Int), false)))))) else (none)))
def zaq.T1 : Bool × List (List Nat × List Nat) := (true, [([], []), ([0], [0]), ([1], [1]), ([], []), ([3], [3]), ([4], [4]), ([5], [5]), ([2, 6, 2], [2, 6]), ([7, 7, 0, 1, 2, 3, 4, 5, 6, 7], [7])])
def zaq.B1 : List Nat := [0, 1, 3, 0, 8, 24, 56, 127, 255]
theorem zaq.tab1 : rtab .any (opsOf Try.f24 1) = zaq.T1 := by kernel_rfl
theorem zaq.bits1 : waitsOk zaq.T1.2 zaq.B1 = true := by kernel_rfl
def zaq.T4 : Bool × List (List Nat × List Nat) := (true, [([], []), ([], []), ([1], [1]), ([2], [2]), ([3, 3], [3]), ([4], [4]), ([5, 4], [4, 5]), ([6, 4], [4, 6]), ([7, 4], [4, 7]), ([4, 8], [4, 8]), ([0, 4, 0], [0]), ([9, 10, 0, 1, 2, 3, 4, 5, 6, 7, 8, 9, 10], [9])])
def zaq.B4 : List Nat := [0, 0, 2, 6, 14, 30, 62, 126, 254, 510, 31, 2047]
theorem zaq.tab4 : rtab .any (opsOf Try.f24 4) = zaq.T4 := by kernel_rfl
theorem zaq.bits4 : waitsOk zaq.T4.2 zaq.B4 = true := by kernel_rfl
def zaq.T6 : Bool × List (List Nat × List Nat) := (true, [([], []), ([], []), ([1], [1]), ([2], [2]), ([0, 3, 3], [0, 3]), ([], []), ([5], [5]), ([6], [6]), ([7], [7]), ([4, 4, 0, 1, 2, 3, 4], [4]), ([8, 9, 0, 1, 2, 3, 4, 5, 6, 7, 8, 9], [8])])
def zaq.B6 : List Nat := [0, 0, 2, 6, 15, 0, 32, 96, 224, 31, 1023]
theorem zaq.tab6 : rtab .any (opsOf Try.f24 6) = zaq.T6 := by kernel_rfl
theorem zaq.bits6 : waitsOk zaq.T6.2 zaq.B6 = true := by kernel_rfl
set_option maxHeartbeats 8000000 in
set_option maxRecDepth 100000 in
theorem zaq.calls (k : Nat) (a0_0 : Int) (a0_1 : Int) (a0_2 : Int) (a0_3 : ByteArray) (a0_4 : ByteArray) (a0_5 : ByteArray) (a0_6 : ByteArray) (a0_7 : ByteArray) (a0_8 : ByteArray) (A0_9 : Option Addr) (c0_9 : Nat) (l0_9 : List ByteArray) (a0_10 : Int) (a0_11 : Int) (a0_12 : Int) (A0_13 : Option Addr) (c0_13 : Nat) (l0_13 : List Int) (r1 : List Int) (r2 : Bool) (w : World) (hr0_9 : Kd.C Kd.string w A0_9 l0_9.length l0_9) (hc0_9 : l0_9.length ≤ c0_9) (hr0_13 : Kd.C (Kd.int .i64) w A0_13 l0_13.length l0_13) (hc0_13 : l0_13.length ≤ c0_13) (h : zaq.f k a0_0 a0_1 a0_2 a0_3 a0_4 a0_5 a0_6 a0_7 a0_8 l0_9 a0_10 a0_11 a0_12 l0_13 = some (r1, r2)) :
  Calls Try.prog 24 #[.agg #[.int .i64 a0_0, .int .i64 a0_1, .int .i64 a0_2, .string a0_3, .string a0_4, .string a0_5, .string a0_6, .string a0_7, .string a0_8, .slice A0_9 l0_9.length c0_9, .int .i64 a0_10, .int .i64 a0_11, .int .i64 a0_12, .slice A0_13 l0_13.length c0_13]] w fun e w' => ∃ v0_ : Value, e = .returned (.tuple #[v0_, .bool r2]) ∧ Kd.R (Kd.int .u8) 5 w' w.heap.size (fun _ => True) v0_ r1 ∧ Below w.heap.size w w' := by
 have hu38 := Try.underlying38
 have hu25 := Try.underlying25
 have HR0_9 := Aside0.mk hr0_9
 have HC0_9 := Aside0.mk hc0_9
 clear hr0_9 hc0_9
 have HR0_13 := Aside0.mk hr0_13
 have HC0_13 := Aside0.mk hc0_13
 clear hr0_13 hc0_13
 have HB := Aside0.mk (Below.refl w.heap.size w)
 have H : ((zao.f k ([] : List Int) a0_0).bind fun t153 => ((some (([(a0_1) % 256] : List Int) : List Int)).bind fun y156 => (if t153.length + y156.length < 140737488355328 then ((some (t153 ++ y156 : List Int)).bind fun y159 => (if a0_1 = 0 then ((zbp.f a0_2 a0_3 a0_4 a0_5 a0_6 a0_7 a0_8 l0_9 a0_10 a0_11 a0_12).bind fun t162 => (if t162 = true then (some (y159, ((l0_13.length : Int) == 0))) else (some (y159, false)))) else (if a0_1 = 1 then ((zbc.f k a0_2 a0_3 a0_4 a0_5 a0_6 a0_7 a0_8 l0_9 a0_10 a0_11 a0_12).bind fun t163 => (if y159.length + t163.length < 140737488355328 then (some ((y159 ++ t163), ((l0_13.length : Int) == 0))) else (none))) else (if a0_1 = 2 then ((zao.f k y159 (l0_13.length : Int)).bind fun t169 => (zaq.l0 k t169 l0_13 (l0_13.length : Int) 0 a0_0 a0_1 a0_2 a0_3 a0_4 a0_5 a0_6 a0_7 a0_8 l0_9 a0_10 a0_11 a0_12 l0_13)) else (some (([] : List Int), false)))))) else (none)))) = some (r1, r2) := h
 clear h
 replace H := Option.bind_eq_some_iff.mp H
 obtain ⟨t153, A20, H⟩ := H
 replace H : ((some (([(a0_1) % 256] : List Int) : List Int)).bind fun y156 => (if t153.length + y156.length < 140737488355328 then ((some (t153 ++ y156 : List Int)).bind fun y159 => (if a0_1 = 0 then ((zbp.f a0_2 a0_3 a0_4 a0_5 a0_6 a0_7 a0_8 l0_9 a0_10 a0_11 a0_12).bind fun t162 => (if t162 = true then (some (y159, ((l0_13.length : Int) == 0))) else (some (y159, false)))) else (if a0_1 = 1 then ((zbc.f k a0_2 a0_3 a0_4 a0_5 a0_6 a0_7 a0_8 l0_9 a0_10 a0_11 a0_12).bind fun t163 => (if y159.length + t163.length < 140737488355328 then (some ((y159 ++ t163), ((l0_13.length : Int) == 0))) else (none))) else (if a0_1 = 2 then ((zao.f k y159 (l0_13.length : Int)).bind fun t169 => (zaq.l0 k t169 l0_13 (l0_13.length : Int) 0 a0_0 a0_1 a0_2 a0_3 a0_4 a0_5 a0_6 a0_7 a0_8 l0_9 a0_10 a0_11 a0_12 l0_13)) else (some (([] : List Int), false)))))) else (none))) = some (r1, r2) := H
 have A2 := Aside0.mk A20
 clear A20
 obtain ⟨y156, hy156⟩ : ∃ y_ : List Int, y_ = (([(a0_1) % 256] : List Int)) := ⟨_, rfl⟩
 replace H : (if t153.length + y156.length < 140737488355328 then ((some (t153 ++ y156 : List Int)).bind fun y159 => (if a0_1 = 0 then ((zbp.f a0_2 a0_3 a0_4 a0_5 a0_6 a0_7 a0_8 l0_9 a0_10 a0_11 a0_12).bind fun t162 => (if t162 = true then (some (y159, ((l0_13.length : Int) == 0))) else (some (y159, false)))) else (if a0_1 = 1 then ((zbc.f k a0_2 a0_3 a0_4 a0_5 a0_6 a0_7 a0_8 l0_9 a0_10 a0_11 a0_12).bind fun t163 => (if y159.length + t163.length < 140737488355328 then (some ((y159 ++ t163), ((l0_13.length : Int) == 0))) else (none))) else (if a0_1 = 2 then ((zao.f k y159 (l0_13.length : Int)).bind fun t169 => (zaq.l0 k t169 l0_13 (l0_13.length : Int) 0 a0_0 a0_1 a0_2 a0_3 a0_4 a0_5 a0_6 a0_7 a0_8 l0_9 a0_10 a0_11 a0_12 l0_13)) else (some (([] : List Int), false)))))) else (none)) = some (r1, r2) := by first | (rw [hy156]; with_reducible exact H) | (have H2_ := (Option.bind_some _ _).symm.trans H; rw [hy156]; with_reducible exact H2_) | (have H2_ := (Option.bind_some _ _).symm.trans H; with_reducible exact H2_) | with_reducible exact H | (rw [hy156]; exact H) | exact H
 have Ny156 := Aside0.mk hy156
 clear hy156
 by_cases c3 : t153.length + y156.length < 140737488355328
 ·rw [if_pos c3] at H
  have LMc3 := Aside0.mk c3
  clear c3
  obtain ⟨y159, hy159⟩ : ∃ y_ : List Int, y_ = (t153 ++ y156) := ⟨_, rfl⟩
  replace H : (if a0_1 = 0 then ((zbp.f a0_2 a0_3 a0_4 a0_5 a0_6 a0_7 a0_8 l0_9 a0_10 a0_11 a0_12).bind fun t162 => (if t162 = true then (some (y159, ((l0_13.length : Int) == 0))) else (some (y159, false)))) else (if a0_1 = 1 then ((zbc.f k a0_2 a0_3 a0_4 a0_5 a0_6 a0_7 a0_8 l0_9 a0_10 a0_11 a0_12).bind fun t163 => (if y159.length + t163.length < 140737488355328 then (some ((y159 ++ t163), ((l0_13.length : Int) == 0))) else (none))) else (if a0_1 = 2 then ((zao.f k y159 (l0_13.length : Int)).bind fun t169 => (zaq.l0 k t169 l0_13 (l0_13.length : Int) 0 a0_0 a0_1 a0_2 a0_3 a0_4 a0_5 a0_6 a0_7 a0_8 l0_9 a0_10 a0_11 a0_12 l0_13)) else (some (([] : List Int), false))))) = some (r1, r2) := by first | (rw [hy159]; with_reducible exact H) | (have H2_ := (Option.bind_some _ _).symm.trans H; rw [hy159]; with_reducible exact H2_) | (have H2_ := (Option.bind_some _ _).symm.trans H; with_reducible exact H2_) | with_reducible exact H | (rw [hy159]; exact H) | exact H
  have Ny159 := Aside0.mk hy159
  clear hy159
  by_cases c4 : a0_1 = 0
  ·rw [if_pos c4] at H
   have c4b0 : (a0_1 == 0) = true := beq_iff_eq.mpr c4
   have c4b1 : (a0_1 != 0) = false := bne_eq_false_iff_eq.mpr c4
   clear c4
   replace H := Option.bind_eq_some_iff.mp H
   obtain ⟨t162, A50, H⟩ := H
   replace H : (if t162 = true then (some (y159, ((l0_13.length : Int) == 0))) else (some (y159, false))) = some (r1, r2) := H
   have A5 := Aside0.mk A50
   clear A50
   by_cases c6 : t162 = true
   ·subst c6
    have H1 : (some (y159, ((l0_13.length : Int) == 0))) = some (r1, r2) := by rw [if_pos rfl] at H; exact H
    clear H
    have H := H1
    clear H1
    simp only [Option.some.injEq, Prod.mk.injEq] at H
    obtain ⟨rfl, rfl⟩ := H
    go_enter Try.func24, Try.ntmps24
    try go_wp2_with (first | ((with_reducible refine zcr (N := 1) rfl ?_); (try (refine zcv (by rfl) ?_; dsimp only)); refine zcm ?hg (N := 1) ?hd (cs := #[.int .i64 a0_0, .int .i64 a0_1, .int .i64 a0_2, .string a0_3, .string a0_4, .string a0_5, .string a0_6, .string a0_7, .string a0_8, .slice A0_9 l0_9.length c0_9, .int .i64 a0_10, .int .i64 a0_11, .int .i64 a0_12, .slice A0_13 l0_13.length c0_13]) (t := 38) ?hr ?_; (case hd => rfl); (case hg => rfl); (case hr => first | (go_simp; done) | (go_simp; rfl)); intro gb152 hg w7 hbox hb; have n0_ := Aside0.mk (zbl (by repeat (first | (with_reducible first | exact HB.out | apply zad | apply zac | apply zae) | exact HB.out)) hb); have n1_ := Aside0.mk (hbox); have n2_ := Aside0.mk ((by rw [hg]; exact (zaz (by repeat (first | (with_reducible first | exact HB.out | apply zad | apply zac | apply zae) | exact HB.out))) : w.heap.size ≤ gb152)); have n3_ := Aside0.mk ((by rw [hg]; exact (zaz (by repeat (first | (with_reducible first | exact HB.out | apply zad | apply zac | apply zae) | exact HB.out))) : w.heap.size ≤ gb152)); clear HB; have HB := n0_; have BK152 := n1_; have GW152 := n2_; have GE152 := n3_; clear n0_ n1_ n2_ n3_; clear hb hbox hg))
    have n0_ := Aside0.mk (zai BK152.out)
    have n1_ := Aside0.mk (zae HB.out)
    clear BK152
    clear HB
    have BK152 := n0_
    have HB := n1_
    clear n0_ n1_
    refine zho (n := 9) (S := fun w' => w'.cell? ⟨gb152, 0, none⟩ = some (.int .i64 a0_0) ∧ w'.cell? ⟨gb152, 1, none⟩ = some (.int .i64 a0_1) ∧ w'.cell? ⟨gb152, 2, none⟩ = some (.int .i64 a0_2) ∧ w'.cell? ⟨gb152, 3, none⟩ = some (.string a0_3) ∧ w'.cell? ⟨gb152, 4, none⟩ = some (.string a0_4) ∧ w'.cell? ⟨gb152, 5, none⟩ = some (.string a0_5) ∧ w'.cell? ⟨gb152, 6, none⟩ = some (.string a0_6) ∧ w'.cell? ⟨gb152, 7, none⟩ = some (.string a0_7) ∧ w'.cell? ⟨gb152, 8, none⟩ = some (.string a0_8) ∧ w'.cell? ⟨gb152, 9, none⟩ = some (.slice A0_9 l0_9.length c0_9) ∧ w'.cell? ⟨gb152, 10, none⟩ = some (.int .i64 a0_10) ∧ w'.cell? ⟨gb152, 11, none⟩ = some (.int .i64 a0_11) ∧ w'.cell? ⟨gb152, 12, none⟩ = some (.int .i64 a0_12) ∧ w'.cell? ⟨gb152, 13, none⟩ = some (.slice A0_13 l0_13.length c0_13)) (ds := []) #[false, false, false, false, false, false, false, false, false] (by kernel_rfl) rfl rfl ⟨(zaa BK152.out 0).trans rfl, (zaa BK152.out 1).trans rfl, (zaa BK152.out 2).trans rfl, (zaa BK152.out 3).trans rfl, (zaa BK152.out 4).trans rfl, (zaa BK152.out 5).trans rfl, (zaa BK152.out 6).trans rfl, (zaa BK152.out 7).trans rfl, (zaa BK152.out 8).trans rfl, (zaa BK152.out 9).trans rfl, (zaa BK152.out 10).trans rfl, (zaa BK152.out 11).trans rfl, (zaa BK152.out 12).trans rfl, (zaa BK152.out 13).trans rfl⟩ (fun hHeld => ?_); refine zet zaq.tab1 zaq.bits1 (fun HT_ HW_ => ?_)
    generalize w7.drew = w8 at BK152 HB hHeld ⊢
    refine zde (i := 0) (N := some 7) (v := ?_) (a' := ?_) #[true, false, false, false, false, false, false, false, false] rfl rfl (zcn HT_.out (by kernel_rfl)) (fun _ _ _ h => h) (Or.inl ⟨by rfl, ?_⟩) ?_ ?_
    rotate_left
    ·intro w'
     go_simp
     with_reducible rfl
    rotate_left
    ·simp only [Act.put, List.setIfInBounds_toArray, List.set_cons_zero, List.set_cons_succ, zbz, zcc]
     rfl
    refine zde (i := 3) (N := some 10) (v := ?_) (a' := ?_) #[true, false, false, true, false, false, false, false, false] rfl rfl (zcn HT_.out (by kernel_rfl)) (fun _ _ _ h => h) (Or.inl ⟨by rfl, ?_⟩) ?_ ?_
    rotate_left
    ·intro w'
     go_simp
     with_reducible rfl
    rotate_left
    ·simp only [Act.put, List.setIfInBounds_toArray, List.set_cons_zero, List.set_cons_succ, zbz, zcc]
     rfl
    refine zgv (i := 1) (N := some 8) (v := ?_) (a' := ?_) #[true, true, false, true, false, false, false, false, false] rfl rfl (zdo HT_.out HW_.out (by kernel_rfl)) (fun _ _ _ h => h) (Or.inl ⟨by rfl, ?_⟩) hHeld ?_ ?_
    rotate_left
    ·rintro w' ⟨s0, s1, s2, s3, s4, s5, s6, s7, s8, s9, s10, s11, s12, s13⟩
     go_simp
     with_reducible rfl
    rotate_left
    ·simp only [Act.put, List.setIfInBounds_toArray, List.set_cons_zero, List.set_cons_succ, zbz, zcc]
     rfl
    refine zgv (i := 4) (N := some 11) (v := ?_) (a' := ?_) #[true, true, false, true, true, false, false, false, false] rfl rfl (zdo HT_.out HW_.out (by kernel_rfl)) (fun _ _ _ h => h) (Or.inl ⟨by rfl, ?_⟩) hHeld ?_ ?_
    rotate_left
    ·rintro w' ⟨s0, s1, s2, s3, s4, s5, s6, s7, s8, s9, s10, s11, s12, s13⟩
     go_simp
     with_reducible rfl
    rotate_left
    ·simp only [Act.put, List.setIfInBounds_toArray, List.set_cons_zero, List.set_cons_succ, zbz, zcc]
     rfl
    refine zde (i := 5) (N := some 12) (v := ?_) (a' := ?_) #[true, true, false, true, true, true, false, false, false] rfl rfl (zcn HT_.out (by kernel_rfl)) (fun _ _ _ h => h) (Or.inl ⟨by rfl, ?_⟩) ?_ ?_
    rotate_left
    ·intro w'
     go_simp
     with_reducible rfl
    rotate_left
    ·simp only [Act.put, List.setIfInBounds_toArray, List.set_cons_zero, List.set_cons_succ, zbz, zcc]
     rfl
    refine zjf (σ := Value × Value) 2 #[true, true, true, true, true, true, true, false, false] (fun s_ => [(9, s_.1), (13, s_.2)]) (fun s_ w' => (w'.cell? ⟨gb152, 0, none⟩ = some (.int .i64 a0_0) ∧ w'.cell? ⟨gb152, 1, none⟩ = some (.int .i64 a0_1) ∧ w'.cell? ⟨gb152, 2, none⟩ = some (.int .i64 a0_2) ∧ w'.cell? ⟨gb152, 3, none⟩ = some (.string a0_3) ∧ w'.cell? ⟨gb152, 4, none⟩ = some (.string a0_4) ∧ w'.cell? ⟨gb152, 5, none⟩ = some (.string a0_5) ∧ w'.cell? ⟨gb152, 6, none⟩ = some (.string a0_6) ∧ w'.cell? ⟨gb152, 7, none⟩ = some (.string a0_7) ∧ w'.cell? ⟨gb152, 8, none⟩ = some (.string a0_8) ∧ w'.cell? ⟨gb152, 9, none⟩ = some (.slice A0_9 l0_9.length c0_9) ∧ w'.cell? ⟨gb152, 10, none⟩ = some (.int .i64 a0_10) ∧ w'.cell? ⟨gb152, 11, none⟩ = some (.int .i64 a0_11) ∧ w'.cell? ⟨gb152, 12, none⟩ = some (.int .i64 a0_12) ∧ w'.cell? ⟨gb152, 13, none⟩ = some (.slice A0_13 l0_13.length c0_13)) ∧ (Kd.R (Kd.int .u8) 5 w' w.heap.size (fun k_ => some k_ ≠ (s_.2 : Value).ownBlock) s_.1 t153) ∧ (Kd.R (Kd.int .u8) 5 w' w.heap.size (fun k_ => some k_ ≠ (s_.1 : Value).ownBlock) s_.2 y156) ∧ (w'.heap[gb152]? = some (.cells #[.int .i64 a0_0, .int .i64 a0_1, .int .i64 a0_2, .string a0_3, .string a0_4, .string a0_5, .string a0_6, .string a0_7, .string a0_8, .slice A0_9 l0_9.length c0_9, .int .i64 a0_10, .int .i64 a0_11, .int .i64 a0_12, .slice A0_13 l0_13.length c0_13] 38 (0, 0))) ∧ (Below w.heap.size w w')) ?_ ?_
    rotate_left
    ·intro hCont
     refine two_ (i := 2) (j := 6) (Ni := some 9) (Nj := some 13) #[true, true, true, true, true, true, false, false, false] #[true, true, false, true, true, true, true, false, false] rfl rfl rfl rfl (zip HT_.out (by kernel_rfl)) (by decide) (by decide) (fun K hK => ?_) (fun K hK => ?_)
     ·skip
      refine zhj Try.func48 (by kernel_rfl) rfl #[.slice none 0 0, .int .i64 a0_0] (by rfl) rfl rfl (by (try simp only [List.map_toArray, List.map_cons, List.map_nil]); first | done | rfl | (simp only [List.length_drop, List.length_take]; rfl)) ?_
      refine (zao.calls k (fun k_ => some k_ = (.slice none 0 0 : Value).ownBlock) (.slice none 0 0) ([] : List Int) a0_0 t153 w _ ?side1 ?side2 A2.out).mono ?_
      (case side1 => repeat (first | (with_reducible first | exact HB.out | apply zad | apply zac | apply zae | refine zah ?_ GE152.out) | exact HB.out))
      (case side2 => exact Kd.zdf _ _ _ _ _)
      rintro e w9 ⟨v154, rfl, ho0, hb, hkp⟩
      refine ⟨_, rfl, ?_⟩
      have n0_ := Aside0.mk (zbr (by (with_reducible repeat (first | refine zag ?_ _ | refine zai ?_ | refine zaf ?_ _)); exact BK152.out) hkp (fun hs_ => (fun e_ => by simp [Value.ownBlock] at e_) hs_))
      have n1_ := Aside0.mk (Kd.zbh (ok' := fun k_ => True) ho0 (fun k_ hk_ => trivial))
      have n2_ := Aside0.mk (hb)
      clear BK152
      clear HB
      have BK152 := n0_
      have HO155 := n1_
      have HB := n2_
      clear n0_ n1_ n2_
      (try clear hb)
      (try clear hkp)
      (try clear ho0)
      refine hK.out _ _ ⟨(zaa BK152.out 0).trans rfl, (zaa BK152.out 1).trans rfl, (zaa BK152.out 2).trans rfl, (zaa BK152.out 3).trans rfl, (zaa BK152.out 4).trans rfl, (zaa BK152.out 5).trans rfl, (zaa BK152.out 6).trans rfl, (zaa BK152.out 7).trans rfl, (zaa BK152.out 8).trans rfl, (zaa BK152.out 9).trans rfl, (zaa BK152.out 10).trans rfl, (zaa BK152.out 11).trans rfl, (zaa BK152.out 12).trans rfl, (zaa BK152.out 13).trans rfl⟩ (fun hHeld => ?_)
      clear hK K
      refine zdk (a' := ?_) ?_ ?_
      rotate_left
      ·show Act.put _ (some 9) _ = _
       simp only [Act.put, List.setIfInBounds_toArray, List.set_cons_zero, List.set_cons_succ, zbz, zcc]
       rfl
      refine one_ (i := 6) (N := some 13) #[true, true, true, true, true, true, true, false, false] rfl rfl (zei HT_.out (by kernel_rfl)) (by decide) (fun K hK => ?_)
      refine Kd.zdq (Kd.int .u8) _ 5 ?hg (N := 13) ?hd (xs := ([(a0_1) % 256] : List Int)) (inner := [.int .u8 ((a0_1) % 256)]) (ok := fun _ => True) (okp := fun _ => True) ?hr ?hp (fun _ hk => hk) trivial (Below.refl _ _) (Nat.le_refl _) (by simp) ?_; (case hd => rfl); (case hg => rfl); (case hr => first | (go_simp; done) | (go_simp; rfl)); (case hp => exact (Reps.one (show Kd.M (Kd.int .u8) _ _ _ ((a0_1) % 256) [.int .u8 ((a0_1) % 256)] from rfl) (Reps.none _ _)))
      intro v157 w10 ho11 hb hg_ hnew_
      clear hg_ hnew_
      (first | rw [← Ny156.out] at ho11 | (simp only [Int.reduceToNat] at ho11; rw [← Ny156.out] at ho11))
      have n0_ := Aside0.mk (Kd.zez (by (with_reducible repeat (first | apply Kd.zbb | apply Kd.zba | apply Kd.zbf)); exact HO155.out) (Kd.zhg ho11) hb)
      have n1_ := Aside0.mk (Kd.zdn (Kd.zhf ho11 (Kd.R_lt (by (with_reducible repeat (first | apply Kd.zbb | apply Kd.zba | apply Kd.zbf)); exact HO155.out))) (zaz (by repeat (first | (with_reducible first | exact HB.out | apply zad | apply zac | apply zae | refine zah ?_ GE152.out) | exact HB.out))))
      have n2_ := Aside0.mk (zbn (g := gb152) (o := .cells #[.int .i64 a0_0, .int .i64 a0_1, .int .i64 a0_2, .string a0_3, .string a0_4, .string a0_5, .string a0_6, .string a0_7, .string a0_8, .slice A0_9 l0_9.length c0_9, .int .i64 a0_10, .int .i64 a0_11, .int .i64 a0_12, .slice A0_13 l0_13.length c0_13] 38 (0, 0)) (by (with_reducible repeat (first | refine zag ?_ _ | refine zai ?_ | refine zaf ?_ _)); exact BK152.out) hb)
      have n3_ := Aside0.mk (zbl (by repeat (first | (with_reducible first | exact HB.out | apply zad | apply zac | apply zae | refine zah ?_ GE152.out) | exact HB.out)) hb)
      clear HO155
      clear BK152
      clear HB
      have HO155 := n0_
      have HO158 := n1_
      have BK152 := n2_
      have HB := n3_
      clear n0_ n1_ n2_ n3_
      clear hb ho11
      refine hK.out _ _ ⟨(zaa BK152.out 0).trans rfl, (zaa BK152.out 1).trans rfl, (zaa BK152.out 2).trans rfl, (zaa BK152.out 3).trans rfl, (zaa BK152.out 4).trans rfl, (zaa BK152.out 5).trans rfl, (zaa BK152.out 6).trans rfl, (zaa BK152.out 7).trans rfl, (zaa BK152.out 8).trans rfl, (zaa BK152.out 9).trans rfl, (zaa BK152.out 10).trans rfl, (zaa BK152.out 11).trans rfl, (zaa BK152.out 12).trans rfl, (zaa BK152.out 13).trans rfl⟩ (fun hHeld => ?_)
      clear hK K
      refine zdk (a' := ?_) ?_ ?_
      rotate_left
      ·show Act.put _ (some 13) _ = _
       simp only [Act.put, List.setIfInBounds_toArray, List.set_cons_zero, List.set_cons_succ, zbz, zcc]
       rfl
      exact zdk (by simp only [putAll, Act.put, List.setIfInBounds_toArray, List.set_cons_zero, List.set_cons_succ]) (hCont (v154, v157) _ ⟨hHeld, (by (with_reducible repeat (first | apply Kd.zbb | apply Kd.zba | apply Kd.zbf)); exact Kd.zbh HO155.out (fun _ hk => hk.2)), (by (with_reducible repeat (first | apply Kd.zbb | apply Kd.zba | apply Kd.zbf)); exact Kd.zbh HO158.out (fun _ hk => hk.2)), (by (with_reducible repeat (first | refine zag ?_ _ | refine zai ?_ | refine zaf ?_ _)); exact BK152.out), (by repeat (first | (with_reducible first | exact HB.out | apply zad | apply zac | apply zae | refine zah ?_ GE152.out) | exact HB.out))⟩)
     ·skip
      refine Kd.zdq (Kd.int .u8) _ 5 ?hg (N := 13) ?hd (xs := ([(a0_1) % 256] : List Int)) (inner := [.int .u8 ((a0_1) % 256)]) (ok := fun _ => True) (okp := fun _ => True) ?hr ?hp (fun _ hk => hk) trivial (Below.refl _ _) (Nat.le_refl _) (by simp) ?_; (case hd => rfl); (case hg => rfl); (case hr => first | (go_simp; done) | (go_simp; rfl)); (case hp => exact (Reps.one (show Kd.M (Kd.int .u8) _ _ _ ((a0_1) % 256) [.int .u8 ((a0_1) % 256)] from rfl) (Reps.none _ _)))
      intro v157 w9 ho10 hb hg_ hnew_
      clear hg_ hnew_
      (first | rw [← Ny156.out] at ho10 | (simp only [Int.reduceToNat] at ho10; rw [← Ny156.out] at ho10))
      have n0_ := Aside0.mk (Kd.zdn ho10 (zaz (by repeat (first | (with_reducible first | exact HB.out | apply zad | apply zac | apply zae | refine zah ?_ GE152.out) | exact HB.out))))
      have n1_ := Aside0.mk (zbn (g := gb152) (o := .cells #[.int .i64 a0_0, .int .i64 a0_1, .int .i64 a0_2, .string a0_3, .string a0_4, .string a0_5, .string a0_6, .string a0_7, .string a0_8, .slice A0_9 l0_9.length c0_9, .int .i64 a0_10, .int .i64 a0_11, .int .i64 a0_12, .slice A0_13 l0_13.length c0_13] 38 (0, 0)) (by (with_reducible repeat (first | refine zag ?_ _ | refine zai ?_ | refine zaf ?_ _)); exact BK152.out) hb)
      have n2_ := Aside0.mk (zbl (by repeat (first | (with_reducible first | exact HB.out | apply zad | apply zac | apply zae | refine zah ?_ GE152.out) | exact HB.out)) hb)
      clear BK152
      clear HB
      have HO158 := n0_
      have BK152 := n1_
      have HB := n2_
      clear n0_ n1_ n2_
      clear hb ho10
      refine hK.out _ _ ⟨(zaa BK152.out 0).trans rfl, (zaa BK152.out 1).trans rfl, (zaa BK152.out 2).trans rfl, (zaa BK152.out 3).trans rfl, (zaa BK152.out 4).trans rfl, (zaa BK152.out 5).trans rfl, (zaa BK152.out 6).trans rfl, (zaa BK152.out 7).trans rfl, (zaa BK152.out 8).trans rfl, (zaa BK152.out 9).trans rfl, (zaa BK152.out 10).trans rfl, (zaa BK152.out 11).trans rfl, (zaa BK152.out 12).trans rfl, (zaa BK152.out 13).trans rfl⟩ (fun hHeld => ?_)
      clear hK K
      refine zdk (a' := ?_) ?_ ?_
      rotate_left
      ·show Act.put _ (some 13) _ = _
       simp only [Act.put, List.setIfInBounds_toArray, List.set_cons_zero, List.set_cons_succ, zbz, zcc]
       rfl
      refine one_ (i := 2) (N := some 9) #[true, true, true, true, true, true, true, false, false] rfl rfl (zei HT_.out (by kernel_rfl)) (by decide) (fun K hK => ?_)
      refine zhj Try.func48 (by kernel_rfl) rfl #[.slice none 0 0, .int .i64 a0_0] (by rfl) rfl rfl (by (try simp only [List.map_toArray, List.map_cons, List.map_nil]); first | done | rfl | (simp only [List.length_drop, List.length_take]; rfl)) ?_
      refine (zao.calls k (fun k_ => some k_ = (.slice none 0 0 : Value).ownBlock) (.slice none 0 0) ([] : List Int) a0_0 t153 w _ ?side1 ?side2 A2.out).mono ?_
      (case side1 => repeat (first | (with_reducible first | exact HB.out | apply zad | apply zac | apply zae | refine zah ?_ GE152.out) | exact HB.out))
      (case side2 => exact Kd.zdf _ _ _ _ _)
      rintro e w11 ⟨v154, rfl, ho0, hb, hkp⟩
      refine ⟨_, rfl, ?_⟩
      have n0_ := Aside0.mk (zbr (by (with_reducible repeat (first | refine zag ?_ _ | refine zai ?_ | refine zaf ?_ _)); exact BK152.out) hkp (fun hs_ => (fun e_ => by simp [Value.ownBlock] at e_) hs_))
      have n1_ := Aside0.mk (Kd.zbh (ok' := fun k_ => some k_ ≠ (v154 : Value).ownBlock) (Kd.zgg (HO158.out) hkp (fun k_ hk_ hs_ => (fun e_ => by simp [Value.ownBlock] at e_) hs_)) (fun k_ hk_ => fun e_ => Or.elim (ho0.1 k_ e_.symm) (fun hs_ => hk_.2.1 hs_) (fun hn_ => Nat.not_le.2 hk_.2.2 hn_)))
      have n2_ := Aside0.mk (Kd.zbh (ok' := fun k_ => some k_ ≠ (v157 : Value).ownBlock) ho0 (fun k_ hk_ => Or.elim hk_ (fun hs_ => absurd hs_ (by simp [Value.ownBlock])) (fun hn_ => (Kd.fresh' (Kd.R_lt (by (with_reducible repeat (first | apply Kd.zbb | apply Kd.zba | apply Kd.zbf)); exact HO158.out)) k_ hn_))))
      have n3_ := Aside0.mk (hb)
      clear BK152
      clear HO158
      clear HB
      have BK152 := n0_
      have HO158 := n1_
      have HO155 := n2_
      have HB := n3_
      clear n0_ n1_ n2_ n3_
      (try clear hb)
      (try clear hkp)
      (try clear ho0)
      refine hK.out _ _ ⟨(zaa BK152.out 0).trans rfl, (zaa BK152.out 1).trans rfl, (zaa BK152.out 2).trans rfl, (zaa BK152.out 3).trans rfl, (zaa BK152.out 4).trans rfl, (zaa BK152.out 5).trans rfl, (zaa BK152.out 6).trans rfl, (zaa BK152.out 7).trans rfl, (zaa BK152.out 8).trans rfl, (zaa BK152.out 9).trans rfl, (zaa BK152.out 10).trans rfl, (zaa BK152.out 11).trans rfl, (zaa BK152.out 12).trans rfl, (zaa BK152.out 13).trans rfl⟩ (fun hHeld => ?_)
      clear hK K
      refine zdk (a' := ?_) ?_ ?_
      rotate_left
      ·show Act.put _ (some 9) _ = _
       simp only [Act.put, List.setIfInBounds_toArray, List.set_cons_zero, List.set_cons_succ, zbz, zcc]
       rfl
      exact zdk (by simp only [putAll, Act.put, List.setIfInBounds_toArray, List.set_cons_zero, List.set_cons_succ]) (hCont (v154, v157) _ ⟨hHeld, (by (with_reducible repeat (first | apply Kd.zbb | apply Kd.zba | apply Kd.zbf)); exact HO155.out), (by (with_reducible repeat (first | apply Kd.zbb | apply Kd.zba | apply Kd.zbf)); exact HO158.out), (by (with_reducible repeat (first | refine zag ?_ _ | refine zai ?_ | refine zaf ?_ _)); exact BK152.out), (by repeat (first | (with_reducible first | exact HB.out | apply zad | apply zac | apply zae | refine zah ?_ GE152.out) | exact HB.out))⟩)
    rintro ⟨v154, v157⟩ w12 ⟨hS_, h0_, h1_, h2_, h3_⟩
    have n0_ : Aside0 (Kd.R (Kd.int .u8) 5 w12 w.heap.size (fun k_ => some k_ ≠ (v157 : Value).ownBlock) v154 t153) := ⟨h0_⟩
    have n1_ : Aside0 (Kd.R (Kd.int .u8) 5 w12 w.heap.size (fun k_ => some k_ ≠ (v154 : Value).ownBlock) v157 y156) := ⟨h1_⟩
    have n2_ : Aside0 (w12.heap[gb152]? = some (.cells #[.int .i64 a0_0, .int .i64 a0_1, .int .i64 a0_2, .string a0_3, .string a0_4, .string a0_5, .string a0_6, .string a0_7, .string a0_8, .slice A0_9 l0_9.length c0_9, .int .i64 a0_10, .int .i64 a0_11, .int .i64 a0_12, .slice A0_13 l0_13.length c0_13] 38 (0, 0))) := ⟨h2_⟩
    have n3_ : Aside0 (Below w.heap.size w w12) := ⟨h3_⟩
    clear BK152
    clear HB
    clear h0_ h1_ h2_ h3_
    have HO155 := n0_
    have HO158 := n1_
    have BK152 := n2_
    have HB := n3_
    clear n0_ n1_ n2_ n3_
    have hHeld : w12.cell? ⟨gb152, 0, none⟩ = some (.int .i64 a0_0) ∧ w12.cell? ⟨gb152, 1, none⟩ = some (.int .i64 a0_1) ∧ w12.cell? ⟨gb152, 2, none⟩ = some (.int .i64 a0_2) ∧ w12.cell? ⟨gb152, 3, none⟩ = some (.string a0_3) ∧ w12.cell? ⟨gb152, 4, none⟩ = some (.string a0_4) ∧ w12.cell? ⟨gb152, 5, none⟩ = some (.string a0_5) ∧ w12.cell? ⟨gb152, 6, none⟩ = some (.string a0_6) ∧ w12.cell? ⟨gb152, 7, none⟩ = some (.string a0_7) ∧ w12.cell? ⟨gb152, 8, none⟩ = some (.string a0_8) ∧ w12.cell? ⟨gb152, 9, none⟩ = some (.slice A0_9 l0_9.length c0_9) ∧ w12.cell? ⟨gb152, 10, none⟩ = some (.int .i64 a0_10) ∧ w12.cell? ⟨gb152, 11, none⟩ = some (.int .i64 a0_11) ∧ w12.cell? ⟨gb152, 12, none⟩ = some (.int .i64 a0_12) ∧ w12.cell? ⟨gb152, 13, none⟩ = some (.slice A0_13 l0_13.length c0_13) := hS_
    obtain ⟨Ao14, co14, eo14⟩ := Kd.zbu HO158.out
    (first | subst eo14 | (injection eo14 with f1_ f2_ f3_; have f4_ := f1_.symm; have f5_ := f3_.symm; clear f1_ f2_ f3_; subst f4_; subst f5_))
    refine zdk (a' := ?_) ?_ ?_
    rotate_left
    ·simp only [putAll, Act.put, List.setIfInBounds_toArray, List.set_cons_zero, List.set_cons_succ]
     rfl
    refine one_ (i := 7) (N := some 14) #[true, true, true, true, true, true, true, true, false] rfl rfl (zei HT_.out (by kernel_rfl)) (by decide) (fun K hK => ?_)
    refine Kd.zda (Kd.int .u8) (w0 := w) w.heap.size (by rfl) (.tmp 9) (.tmp 13) 27 5 (.int .u8 0) 1 rfl Try.underlying27 info5 rfl (by decide) (by omega) v154 t153 y156 _ _ _ (fun k_ => some k_ ≠ (.slice Ao14 y156.length co14 : Value).ownBlock) (fun _ => False) rfl rfl ?aO ?aR (fun _ _ h => h) (fun _ h => h.elim) ?aF ?aB ?aS ?aL ?_
    (case aR => repeat (first | exact (Kd.zed HO158.out).2.2 | (with_reducible refine Kd.zev ?_ _) | (with_reducible refine Kd.zeu ?_ _) | (with_reducible refine Kd.zfw ?_)))
    (case aB => exact (by repeat (first | (with_reducible first | exact HB.out | apply zad | apply zac | apply zae | refine zah ?_ GE152.out) | exact HB.out)))
    (case aF => exact (fun k_ hk => Kd.fresh' (Kd.R_lt (by (with_reducible repeat (first | apply Kd.zbb | apply Kd.zba | apply Kd.zbf)); exact HO158.out)) k_ hk))
    (case aO => exact (by (with_reducible repeat (first | apply Kd.zbb | apply Kd.zba | apply Kd.zbf)); exact HO155.out))
    (case aS => exact (zaz (by repeat (first | (with_reducible first | exact HB.out | apply zad | apply zac | apply zae | refine zah ?_ GE152.out) | exact HB.out))))
    (case aL => have := LMc3.out; omega)
    intro v160 w13 ho hb hg hat
    rw [← Ny159.out] at ho
    have n0_ := Aside0.mk (zbm (g := gb152) (o := .cells #[.int .i64 a0_0, .int .i64 a0_1, .int .i64 a0_2, .string a0_3, .string a0_4, .string a0_5, .string a0_6, .string a0_7, .string a0_8, .slice A0_9 l0_9.length c0_9, .int .i64 a0_10, .int .i64 a0_11, .int .i64 a0_12, .slice A0_13 l0_13.length c0_13] 38 (0, 0)) (by (with_reducible repeat (first | refine zag ?_ _ | refine zai ?_ | refine zaf ?_ _)); exact BK152.out) hg (Kd.R_ne HO155.out BK152.out (by decide)))
    have n1_ := Aside0.mk (Kd.zfu (ok := (fun _ => True)) (by (with_reducible repeat (first | apply Kd.zbb | apply Kd.zba | apply Kd.zbf)); exact Kd.zbh HO158.out (fun _ hk => ⟨trivial, hk⟩)) hg hat)
    have n2_ := Aside0.mk (hb)
    have n3_ := Aside0.mk (ho)
    clear BK152
    clear HO158
    clear HB
    clear HO155
    have BK152 := n0_
    have HO158 := n1_
    have HB := n2_
    have HO161 := n3_
    clear n0_ n1_ n2_ n3_
    clear ho hb hg hat
    refine hK.out _ _ ⟨(zaa BK152.out 0).trans rfl, (zaa BK152.out 1).trans rfl, (zaa BK152.out 2).trans rfl, (zaa BK152.out 3).trans rfl, (zaa BK152.out 4).trans rfl, (zaa BK152.out 5).trans rfl, (zaa BK152.out 6).trans rfl, (zaa BK152.out 7).trans rfl, (zaa BK152.out 8).trans rfl, (zaa BK152.out 9).trans rfl, (zaa BK152.out 10).trans rfl, (zaa BK152.out 11).trans rfl, (zaa BK152.out 12).trans rfl, (zaa BK152.out 13).trans rfl⟩ (fun hHeld => ?_)
    clear hK K
    refine zdk (a' := ?_) ?_ ?_
    rotate_left
    ·show Act.put _ (some 14) _ = _
     simp only [Act.put, List.setIfInBounds_toArray, List.set_cons_zero, List.set_cons_succ, zbz, zcc]
     rfl
    refine zde (i := 8) (N := some 4) (v := ?_) (a' := ?_) #[true, true, true, true, true, true, true, true, true] rfl rfl (zcn HT_.out (by kernel_rfl)) (fun _ _ _ h => h) (Or.inl ⟨by rfl, ?_⟩) ?_ ?_
    rotate_left
    ·intro w'
     go_simp
     with_reducible rfl
    rotate_left
    ·simp only [Act.put, List.setIfInBounds_toArray, List.set_cons_zero, List.set_cons_succ, zbz, zcc]
     rfl
    refine zis (zgd HT_.out (by kernel_rfl)) ?_
    have hcz15_0 : w13.cell? ⟨gb152, 0, none⟩ = some (.int .i64 a0_0) := (zaa BK152.out 0).trans rfl
    have hcz15_1 : w13.cell? ⟨gb152, 1, none⟩ = some (.int .i64 a0_1) := (zaa BK152.out 1).trans rfl
    have hcz15_2 : w13.cell? ⟨gb152, 2, none⟩ = some (.int .i64 a0_2) := (zaa BK152.out 2).trans rfl
    have hcz15_3 : w13.cell? ⟨gb152, 3, none⟩ = some (.string a0_3) := (zaa BK152.out 3).trans rfl
    have hcz15_4 : w13.cell? ⟨gb152, 4, none⟩ = some (.string a0_4) := (zaa BK152.out 4).trans rfl
    have hcz15_5 : w13.cell? ⟨gb152, 5, none⟩ = some (.string a0_5) := (zaa BK152.out 5).trans rfl
    have hcz15_6 : w13.cell? ⟨gb152, 6, none⟩ = some (.string a0_6) := (zaa BK152.out 6).trans rfl
    have hcz15_7 : w13.cell? ⟨gb152, 7, none⟩ = some (.string a0_7) := (zaa BK152.out 7).trans rfl
    have hcz15_8 : w13.cell? ⟨gb152, 8, none⟩ = some (.string a0_8) := (zaa BK152.out 8).trans rfl
    have hcz15_9 : w13.cell? ⟨gb152, 9, none⟩ = some (.slice A0_9 l0_9.length c0_9) := (zaa BK152.out 9).trans rfl
    have hcz15_10 : w13.cell? ⟨gb152, 10, none⟩ = some (.int .i64 a0_10) := (zaa BK152.out 10).trans rfl
    have hcz15_11 : w13.cell? ⟨gb152, 11, none⟩ = some (.int .i64 a0_11) := (zaa BK152.out 11).trans rfl
    have hcz15_12 : w13.cell? ⟨gb152, 12, none⟩ = some (.int .i64 a0_12) := (zaa BK152.out 12).trans rfl
    have hcz15_13 : w13.cell? ⟨gb152, 13, none⟩ = some (.slice A0_13 l0_13.length c0_13) := (zaa BK152.out 13).trans rfl
    have hfz15_0 := zab BK152.out 0
    have hfz15_1 := zab BK152.out 1
    have hfz15_2 := zab BK152.out 2
    have hfz15_3 := zab BK152.out 3
    have hfz15_4 := zab BK152.out 4
    have hfz15_5 := zab BK152.out 5
    have hfz15_6 := zab BK152.out 6
    have hfz15_7 := zab BK152.out 7
    have hfz15_8 := zab BK152.out 8
    have hfz15_9 := zab BK152.out 9
    have hfz15_10 := zab BK152.out 10
    have hfz15_11 := zab BK152.out 11
    have hfz15_12 := zab BK152.out 12
    have hfz15_13 := zab BK152.out 13
    try go_wp2
    have n0_ := Aside0.mk (Kd.zbf HO158.out)
    have n1_ := Aside0.mk (Kd.zbf HO161.out)
    have n2_ := Aside0.mk (zai BK152.out)
    have n3_ := Aside0.mk (zae HB.out)
    clear HO158
    clear HO161
    clear BK152
    clear HB
    have HO158 := n0_
    have HO161 := n1_
    have BK152 := n2_
    have HB := n3_
    clear n0_ n1_ n2_ n3_
    refine zho (n := 12) (S := fun w' => w'.cell? ⟨gb152, 0, none⟩ = some (.int .i64 a0_0) ∧ w'.cell? ⟨gb152, 1, none⟩ = some (.int .i64 a0_1) ∧ w'.cell? ⟨gb152, 2, none⟩ = some (.int .i64 a0_2) ∧ w'.cell? ⟨gb152, 3, none⟩ = some (.string a0_3) ∧ w'.cell? ⟨gb152, 4, none⟩ = some (.string a0_4) ∧ w'.cell? ⟨gb152, 5, none⟩ = some (.string a0_5) ∧ w'.cell? ⟨gb152, 6, none⟩ = some (.string a0_6) ∧ w'.cell? ⟨gb152, 7, none⟩ = some (.string a0_7) ∧ w'.cell? ⟨gb152, 8, none⟩ = some (.string a0_8) ∧ w'.cell? ⟨gb152, 9, none⟩ = some (.slice A0_9 l0_9.length c0_9) ∧ w'.cell? ⟨gb152, 10, none⟩ = some (.int .i64 a0_10) ∧ w'.cell? ⟨gb152, 11, none⟩ = some (.int .i64 a0_11) ∧ w'.cell? ⟨gb152, 12, none⟩ = some (.int .i64 a0_12) ∧ w'.cell? ⟨gb152, 13, none⟩ = some (.slice A0_13 l0_13.length c0_13)) (ds := []) #[false, false, false, false, false, false, false, false, false, false, false, false] (by kernel_rfl) rfl rfl ⟨(zaa BK152.out 0).trans rfl, (zaa BK152.out 1).trans rfl, (zaa BK152.out 2).trans rfl, (zaa BK152.out 3).trans rfl, (zaa BK152.out 4).trans rfl, (zaa BK152.out 5).trans rfl, (zaa BK152.out 6).trans rfl, (zaa BK152.out 7).trans rfl, (zaa BK152.out 8).trans rfl, (zaa BK152.out 9).trans rfl, (zaa BK152.out 10).trans rfl, (zaa BK152.out 11).trans rfl, (zaa BK152.out 12).trans rfl, (zaa BK152.out 13).trans rfl⟩ (fun hHeld => ?_); refine zet zaq.tab4 zaq.bits4 (fun HT_ HW_ => ?_)
    generalize w13.drew = w16 at HO158 HO161 BK152 HB hHeld ⊢
    refine zde (i := 0) (N := some 19) (v := ?_) (a' := ?_) #[true, false, false, false, false, false, false, false, false, false, false, false] rfl rfl (zcn HT_.out (by kernel_rfl)) (fun _ _ _ h => h) (Or.inl ⟨by rfl, ?_⟩) ?_ ?_
    rotate_left
    ·intro w'
     go_simp
     with_reducible rfl
    rotate_left
    ·simp only [Act.put, List.setIfInBounds_toArray, List.set_cons_zero, List.set_cons_succ, zbz, zcc]
     rfl
    refine zde (i := 1) (N := some 20) (v := ?_) (a' := ?_) #[true, true, false, false, false, false, false, false, false, false, false, false] rfl rfl (zcn HT_.out (by kernel_rfl)) (fun _ _ _ h => h) (Or.inl ⟨by rfl, ?_⟩) ?_ ?_
    rotate_left
    ·intro w'
     go_simp
     with_reducible rfl
    rotate_left
    ·simp only [Act.put, List.setIfInBounds_toArray, List.set_cons_zero, List.set_cons_succ, zbz, zcc]
     rfl
    refine zgv (i := 2) (N := some 21) (v := ?_) (a' := ?_) #[true, true, true, false, false, false, false, false, false, false, false, false] rfl rfl (zdo HT_.out HW_.out (by kernel_rfl)) (fun _ _ _ h => h) (Or.inl ⟨by rfl, ?_⟩) hHeld ?_ ?_
    rotate_left
    ·rintro w' ⟨s0, s1, s2, s3, s4, s5, s6, s7, s8, s9, s10, s11, s12, s13⟩
     go_simp
     with_reducible rfl
    rotate_left
    ·simp only [Act.put, List.setIfInBounds_toArray, List.set_cons_zero, List.set_cons_succ, zbz, zcc]
     rfl
    refine one_ (i := 3) (N := some 22) #[true, true, true, true, false, false, false, false, false, false, false, false] rfl rfl (zei HT_.out (by kernel_rfl)) (by decide) (fun K hK => ?_)
    refine zhj Try.func21 (by kernel_rfl) rfl #[.agg #[.int .i64 a0_2, .string a0_3, .string a0_4, .string a0_5, .string a0_6, .string a0_7, .string a0_8, .slice A0_9 l0_9.length c0_9, .int .i64 a0_10, .int .i64 a0_11, .int .i64 a0_12]] (by rfl) rfl rfl (by (try simp only [List.map_toArray, List.map_cons, List.map_nil]); first | done | rfl | (simp only [List.length_drop, List.length_take]; rfl)) ?_
    with_reducible refine (zbp.calls a0_2 a0_3 a0_4 a0_5 a0_6 a0_7 a0_8 _ _ l0_9 a0_10 a0_11 a0_12 true _ ?side1 ?side2 A5.out).mono ?_
    (case side1 => repeat (first | exact (Kd.zci HR0_9.out HB.out) | (with_reducible refine Kd.zev ?_ _) | (with_reducible refine Kd.zeu ?_ _) | (with_reducible refine Kd.zfw ?_)))
    (case side2 => exact HC0_9.out)
    rintro e w17 ⟨rfl, hb⟩
    refine ⟨_, rfl, ?_⟩
    have n0_ := Aside0.mk (Kd.zcq (by (with_reducible repeat (first | apply Kd.zbb | apply Kd.zba | apply Kd.zbf)); exact HO158.out) hb)
    have n1_ := Aside0.mk (Kd.zcq (by (with_reducible repeat (first | apply Kd.zbb | apply Kd.zba | apply Kd.zbf)); exact HO161.out) hb)
    have n2_ := Aside0.mk (zbn (g := gb152) (o := .cells #[.int .i64 a0_0, .int .i64 a0_1, .int .i64 a0_2, .string a0_3, .string a0_4, .string a0_5, .string a0_6, .string a0_7, .string a0_8, .slice A0_9 l0_9.length c0_9, .int .i64 a0_10, .int .i64 a0_11, .int .i64 a0_12, .slice A0_13 l0_13.length c0_13] 38 (0, 0)) (by (with_reducible repeat (first | refine zag ?_ _ | refine zai ?_ | refine zaf ?_ _)); exact BK152.out) hb)
    have n3_ := Aside0.mk (zbl (by repeat (first | (with_reducible first | exact HB.out | apply zad | apply zac | apply zae | refine zah ?_ GE152.out) | exact HB.out)) hb)
    clear HO158
    clear HO161
    clear BK152
    clear HB
    have HO158 := n0_
    have HO161 := n1_
    have BK152 := n2_
    have HB := n3_
    clear n0_ n1_ n2_ n3_
    (try clear hb)
    (try clear hb2)
    (try clear hk)
    (try clear hi)
    refine hK.out _ _ ⟨(zaa BK152.out 0).trans rfl, (zaa BK152.out 1).trans rfl, (zaa BK152.out 2).trans rfl, (zaa BK152.out 3).trans rfl, (zaa BK152.out 4).trans rfl, (zaa BK152.out 5).trans rfl, (zaa BK152.out 6).trans rfl, (zaa BK152.out 7).trans rfl, (zaa BK152.out 8).trans rfl, (zaa BK152.out 9).trans rfl, (zaa BK152.out 10).trans rfl, (zaa BK152.out 11).trans rfl, (zaa BK152.out 12).trans rfl, (zaa BK152.out 13).trans rfl⟩ (fun hHeld => ?_)
    clear hK K
    refine zdk (a' := ?_) ?_ ?_
    rotate_left
    ·show Act.put _ (some 22) _ = _
     simp only [Act.put, List.setIfInBounds_toArray, List.set_cons_zero, List.set_cons_succ, zbz, zcc]
     rfl
    refine zde (i := 4) (N := some 23) (v := ?_) (a' := ?_) #[true, true, true, true, true, false, false, false, false, false, false, false] rfl rfl (zcn HT_.out (by kernel_rfl)) (fun _ _ _ h => h) (Or.inl ⟨by rfl, ?_⟩) ?_ ?_
    rotate_left
    ·intro w'
     go_simp
     with_reducible rfl
    rotate_left
    ·simp only [Act.put, List.setIfInBounds_toArray, List.set_cons_zero, List.set_cons_succ, zbz, zcc]
     rfl
    refine zde (i := 5) (N := some 24) (v := ?_) (a' := ?_) #[true, true, true, true, true, true, false, false, false, false, false, false] rfl rfl (zcn HT_.out (by kernel_rfl)) (fun _ _ _ h => h) (Or.inl ⟨by rfl, ?_⟩) ?_ ?_
    rotate_left
    ·intro w'
     go_simp
     with_reducible rfl
    rotate_left
    ·simp only [Act.put, List.setIfInBounds_toArray, List.set_cons_zero, List.set_cons_succ, zbz, zcc]
     rfl
    refine zde (i := 10) (N := some 2) (v := ?_) (a' := ?_) #[true, true, true, true, true, true, false, false, false, false, true, false] rfl rfl (zcn HT_.out (by kernel_rfl)) (fun _ _ _ h => h) (Or.inl ⟨by rfl, ?_⟩) ?_ ?_
    rotate_left
    ·intro w'
     go_simp
     with_reducible rfl
    rotate_left
    ·simp only [Act.put, List.setIfInBounds_toArray, List.set_cons_zero, List.set_cons_succ, zbz, zcc]
     rfl
    refine zgv (i := 6) (N := some 25) (v := ?_) (a' := ?_) #[true, true, true, true, true, true, true, false, false, false, true, false] rfl rfl (zdo HT_.out HW_.out (by kernel_rfl)) (fun _ _ _ h => h) (Or.inl ⟨by rfl, ?_⟩) hHeld ?_ ?_
    rotate_left
    ·rintro w' ⟨s0, s1, s2, s3, s4, s5, s6, s7, s8, s9, s10, s11, s12, s13⟩
     go_simp
     with_reducible rfl
    rotate_left
    ·simp only [Act.put, List.setIfInBounds_toArray, List.set_cons_zero, List.set_cons_succ, zbz, zcc]
     rfl
    refine zde (i := 7) (N := some 26) (v := ?_) (a' := ?_) #[true, true, true, true, true, true, true, true, false, false, true, false] rfl rfl (zcn HT_.out (by kernel_rfl)) (fun _ _ _ h => h) (Or.inl ⟨by rfl, ?_⟩) ?_ ?_
    rotate_left
    ·intro w'
     go_simp
     with_reducible rfl
    rotate_left
    ·simp only [Act.put, List.setIfInBounds_toArray, List.set_cons_zero, List.set_cons_succ, zbz, zcc]
     rfl
    refine zde (i := 8) (N := some 27) (v := ?_) (a' := ?_) #[true, true, true, true, true, true, true, true, true, false, true, false] rfl rfl (zcn HT_.out (by kernel_rfl)) (fun _ _ _ h => h) (Or.inl ⟨by rfl, ?_⟩) ?_ ?_
    rotate_left
    ·intro w'
     go_simp
     with_reducible rfl
    rotate_left
    ·simp only [Act.put, List.setIfInBounds_toArray, List.set_cons_zero, List.set_cons_succ, zbz, zcc]
     rfl
    refine zde (i := 9) (N := some 28) (v := ?_) (a' := ?_) #[true, true, true, true, true, true, true, true, true, true, true, false] rfl rfl (zcn HT_.out (by kernel_rfl)) (fun _ _ _ h => h) (Or.inl ⟨by rfl, ?_⟩) ?_ ?_
    rotate_left
    ·intro w'
     go_simp
     with_reducible rfl
    rotate_left
    ·simp only [Act.put, List.setIfInBounds_toArray, List.set_cons_zero, List.set_cons_succ, zbz, zcc]
     rfl
    refine zde (i := 11) (N := some 3) (v := ?_) (a' := ?_) #[true, true, true, true, true, true, true, true, true, true, true, true] rfl rfl (zcn HT_.out (by kernel_rfl)) (fun _ _ _ h => h) (Or.inl ⟨by rfl, ?_⟩) ?_ ?_
    rotate_left
    ·intro w'
     go_simp
     with_reducible rfl
    rotate_left
    ·simp only [Act.put, List.setIfInBounds_toArray, List.set_cons_zero, List.set_cons_succ, zbz, zcc]
     rfl
    refine zis (zgd HT_.out (by kernel_rfl)) ?_
    try go_wp2
    go_ret2
    exact ⟨_, by first | rfl | (simp [zay, zax] <;> rfl) | (simp [*, zay, zax] <;> rfl), by (with_reducible repeat (first | apply Kd.zbb | apply Kd.zba | apply Kd.zbf)); exact Kd.zbh HO161.out (fun _ hk => trivial), by repeat (first | (with_reducible first | exact HB.out | apply zad | apply zac | apply zae | refine zah ?_ GE152.out) | exact HB.out)⟩
   ·replace c6 := Bool.eq_false_iff.mpr c6
    subst c6
    have H1 : (some (y159, false)) = some (r1, r2) := by rw [if_neg (show ¬ (false = true) by decide)] at H; exact H
    clear H
    have H := H1
    clear H1
    simp only [Option.some.injEq, Prod.mk.injEq] at H
    obtain ⟨rfl, rfl⟩ := H
    go_enter Try.func24, Try.ntmps24
    try go_wp2_with (first | ((with_reducible refine zcr (N := 1) rfl ?_); (try (refine zcv (by rfl) ?_; dsimp only)); refine zcm ?hg (N := 1) ?hd (cs := #[.int .i64 a0_0, .int .i64 a0_1, .int .i64 a0_2, .string a0_3, .string a0_4, .string a0_5, .string a0_6, .string a0_7, .string a0_8, .slice A0_9 l0_9.length c0_9, .int .i64 a0_10, .int .i64 a0_11, .int .i64 a0_12, .slice A0_13 l0_13.length c0_13]) (t := 38) ?hr ?_; (case hd => rfl); (case hg => rfl); (case hr => first | (go_simp; done) | (go_simp; rfl)); intro gb152 hg w18 hbox hb; have n0_ := Aside0.mk (zbl (by repeat (first | (with_reducible first | exact HB.out | apply zad | apply zac | apply zae) | exact HB.out)) hb); have n1_ := Aside0.mk (hbox); have n2_ := Aside0.mk ((by rw [hg]; exact (zaz (by repeat (first | (with_reducible first | exact HB.out | apply zad | apply zac | apply zae) | exact HB.out))) : w.heap.size ≤ gb152)); have n3_ := Aside0.mk ((by rw [hg]; exact (zaz (by repeat (first | (with_reducible first | exact HB.out | apply zad | apply zac | apply zae) | exact HB.out))) : w.heap.size ≤ gb152)); clear HB; have HB := n0_; have BK152 := n1_; have GW152 := n2_; have GE152 := n3_; clear n0_ n1_ n2_ n3_; clear hb hbox hg))
    have n0_ := Aside0.mk (zai BK152.out)
    have n1_ := Aside0.mk (zae HB.out)
    clear BK152
    clear HB
    have BK152 := n0_
    have HB := n1_
    clear n0_ n1_
    refine zho (n := 9) (S := fun w' => w'.cell? ⟨gb152, 0, none⟩ = some (.int .i64 a0_0) ∧ w'.cell? ⟨gb152, 1, none⟩ = some (.int .i64 a0_1) ∧ w'.cell? ⟨gb152, 2, none⟩ = some (.int .i64 a0_2) ∧ w'.cell? ⟨gb152, 3, none⟩ = some (.string a0_3) ∧ w'.cell? ⟨gb152, 4, none⟩ = some (.string a0_4) ∧ w'.cell? ⟨gb152, 5, none⟩ = some (.string a0_5) ∧ w'.cell? ⟨gb152, 6, none⟩ = some (.string a0_6) ∧ w'.cell? ⟨gb152, 7, none⟩ = some (.string a0_7) ∧ w'.cell? ⟨gb152, 8, none⟩ = some (.string a0_8) ∧ w'.cell? ⟨gb152, 9, none⟩ = some (.slice A0_9 l0_9.length c0_9) ∧ w'.cell? ⟨gb152, 10, none⟩ = some (.int .i64 a0_10) ∧ w'.cell? ⟨gb152, 11, none⟩ = some (.int .i64 a0_11) ∧ w'.cell? ⟨gb152, 12, none⟩ = some (.int .i64 a0_12) ∧ w'.cell? ⟨gb152, 13, none⟩ = some (.slice A0_13 l0_13.length c0_13)) (ds := []) #[false, false, false, false, false, false, false, false, false] (by kernel_rfl) rfl rfl ⟨(zaa BK152.out 0).trans rfl, (zaa BK152.out 1).trans rfl, (zaa BK152.out 2).trans rfl, (zaa BK152.out 3).trans rfl, (zaa BK152.out 4).trans rfl, (zaa BK152.out 5).trans rfl, (zaa BK152.out 6).trans rfl, (zaa BK152.out 7).trans rfl, (zaa BK152.out 8).trans rfl, (zaa BK152.out 9).trans rfl, (zaa BK152.out 10).trans rfl, (zaa BK152.out 11).trans rfl, (zaa BK152.out 12).trans rfl, (zaa BK152.out 13).trans rfl⟩ (fun hHeld => ?_); refine zet zaq.tab1 zaq.bits1 (fun HT_ HW_ => ?_)
    generalize w18.drew = w19 at BK152 HB hHeld ⊢
    refine zde (i := 0) (N := some 7) (v := ?_) (a' := ?_) #[true, false, false, false, false, false, false, false, false] rfl rfl (zcn HT_.out (by kernel_rfl)) (fun _ _ _ h => h) (Or.inl ⟨by rfl, ?_⟩) ?_ ?_
    rotate_left
    ·intro w'
     go_simp
     with_reducible rfl
    rotate_left
    ·simp only [Act.put, List.setIfInBounds_toArray, List.set_cons_zero, List.set_cons_succ, zbz, zcc]
     rfl
    refine zde (i := 3) (N := some 10) (v := ?_) (a' := ?_) #[true, false, false, true, false, false, false, false, false] rfl rfl (zcn HT_.out (by kernel_rfl)) (fun _ _ _ h => h) (Or.inl ⟨by rfl, ?_⟩) ?_ ?_
    rotate_left
    ·intro w'
     go_simp
     with_reducible rfl
    rotate_left
    ·simp only [Act.put, List.setIfInBounds_toArray, List.set_cons_zero, List.set_cons_succ, zbz, zcc]
     rfl
    refine zgv (i := 1) (N := some 8) (v := ?_) (a' := ?_) #[true, true, false, true, false, false, false, false, false] rfl rfl (zdo HT_.out HW_.out (by kernel_rfl)) (fun _ _ _ h => h) (Or.inl ⟨by rfl, ?_⟩) hHeld ?_ ?_
    rotate_left
    ·rintro w' ⟨s0, s1, s2, s3, s4, s5, s6, s7, s8, s9, s10, s11, s12, s13⟩
     go_simp
     with_reducible rfl
    rotate_left
    ·simp only [Act.put, List.setIfInBounds_toArray, List.set_cons_zero, List.set_cons_succ, zbz, zcc]
     rfl
    refine zgv (i := 4) (N := some 11) (v := ?_) (a' := ?_) #[true, true, false, true, true, false, false, false, false] rfl rfl (zdo HT_.out HW_.out (by kernel_rfl)) (fun _ _ _ h => h) (Or.inl ⟨by rfl, ?_⟩) hHeld ?_ ?_
    rotate_left
    ·rintro w' ⟨s0, s1, s2, s3, s4, s5, s6, s7, s8, s9, s10, s11, s12, s13⟩
     go_simp
     with_reducible rfl
    rotate_left
    ·simp only [Act.put, List.setIfInBounds_toArray, List.set_cons_zero, List.set_cons_succ, zbz, zcc]
     rfl
    refine zde (i := 5) (N := some 12) (v := ?_) (a' := ?_) #[true, true, false, true, true, true, false, false, false] rfl rfl (zcn HT_.out (by kernel_rfl)) (fun _ _ _ h => h) (Or.inl ⟨by rfl, ?_⟩) ?_ ?_
    rotate_left
    ·intro w'
     go_simp
     with_reducible rfl
    rotate_left
    ·simp only [Act.put, List.setIfInBounds_toArray, List.set_cons_zero, List.set_cons_succ, zbz, zcc]
     rfl
    refine zjf (σ := Value × Value) 2 #[true, true, true, true, true, true, true, false, false] (fun s_ => [(9, s_.1), (13, s_.2)]) (fun s_ w' => (w'.cell? ⟨gb152, 0, none⟩ = some (.int .i64 a0_0) ∧ w'.cell? ⟨gb152, 1, none⟩ = some (.int .i64 a0_1) ∧ w'.cell? ⟨gb152, 2, none⟩ = some (.int .i64 a0_2) ∧ w'.cell? ⟨gb152, 3, none⟩ = some (.string a0_3) ∧ w'.cell? ⟨gb152, 4, none⟩ = some (.string a0_4) ∧ w'.cell? ⟨gb152, 5, none⟩ = some (.string a0_5) ∧ w'.cell? ⟨gb152, 6, none⟩ = some (.string a0_6) ∧ w'.cell? ⟨gb152, 7, none⟩ = some (.string a0_7) ∧ w'.cell? ⟨gb152, 8, none⟩ = some (.string a0_8) ∧ w'.cell? ⟨gb152, 9, none⟩ = some (.slice A0_9 l0_9.length c0_9) ∧ w'.cell? ⟨gb152, 10, none⟩ = some (.int .i64 a0_10) ∧ w'.cell? ⟨gb152, 11, none⟩ = some (.int .i64 a0_11) ∧ w'.cell? ⟨gb152, 12, none⟩ = some (.int .i64 a0_12) ∧ w'.cell? ⟨gb152, 13, none⟩ = some (.slice A0_13 l0_13.length c0_13)) ∧ (Kd.R (Kd.int .u8) 5 w' w.heap.size (fun k_ => some k_ ≠ (s_.2 : Value).ownBlock) s_.1 t153) ∧ (Kd.R (Kd.int .u8) 5 w' w.heap.size (fun k_ => some k_ ≠ (s_.1 : Value).ownBlock) s_.2 y156) ∧ (w'.heap[gb152]? = some (.cells #[.int .i64 a0_0, .int .i64 a0_1, .int .i64 a0_2, .string a0_3, .string a0_4, .string a0_5, .string a0_6, .string a0_7, .string a0_8, .slice A0_9 l0_9.length c0_9, .int .i64 a0_10, .int .i64 a0_11, .int .i64 a0_12, .slice A0_13 l0_13.length c0_13] 38 (0, 0))) ∧ (Below w.heap.size w w')) ?_ ?_
    rotate_left
    ·intro hCont
     refine two_ (i := 2) (j := 6) (Ni := some 9) (Nj := some 13) #[true, true, true, true, true, true, false, false, false] #[true, true, false, true, true, true, true, false, false] rfl rfl rfl rfl (zip HT_.out (by kernel_rfl)) (by decide) (by decide) (fun K hK => ?_) (fun K hK => ?_)
     ·skip
      refine zhj Try.func48 (by kernel_rfl) rfl #[.slice none 0 0, .int .i64 a0_0] (by rfl) rfl rfl (by (try simp only [List.map_toArray, List.map_cons, List.map_nil]); first | done | rfl | (simp only [List.length_drop, List.length_take]; rfl)) ?_
      refine (zao.calls k (fun k_ => some k_ = (.slice none 0 0 : Value).ownBlock) (.slice none 0 0) ([] : List Int) a0_0 t153 w _ ?side1 ?side2 A2.out).mono ?_
      (case side1 => repeat (first | (with_reducible first | exact HB.out | apply zad | apply zac | apply zae | refine zah ?_ GE152.out) | exact HB.out))
      (case side2 => exact Kd.zdf _ _ _ _ _)
      rintro e w20 ⟨v154, rfl, ho0, hb, hkp⟩
      refine ⟨_, rfl, ?_⟩
      have n0_ := Aside0.mk (zbr (by (with_reducible repeat (first | refine zag ?_ _ | refine zai ?_ | refine zaf ?_ _)); exact BK152.out) hkp (fun hs_ => (fun e_ => by simp [Value.ownBlock] at e_) hs_))
      have n1_ := Aside0.mk (Kd.zbh (ok' := fun k_ => True) ho0 (fun k_ hk_ => trivial))
      have n2_ := Aside0.mk (hb)
      clear BK152
      clear HB
      have BK152 := n0_
      have HO155 := n1_
      have HB := n2_
      clear n0_ n1_ n2_
      (try clear hb)
      (try clear hkp)
      (try clear ho0)
      refine hK.out _ _ ⟨(zaa BK152.out 0).trans rfl, (zaa BK152.out 1).trans rfl, (zaa BK152.out 2).trans rfl, (zaa BK152.out 3).trans rfl, (zaa BK152.out 4).trans rfl, (zaa BK152.out 5).trans rfl, (zaa BK152.out 6).trans rfl, (zaa BK152.out 7).trans rfl, (zaa BK152.out 8).trans rfl, (zaa BK152.out 9).trans rfl, (zaa BK152.out 10).trans rfl, (zaa BK152.out 11).trans rfl, (zaa BK152.out 12).trans rfl, (zaa BK152.out 13).trans rfl⟩ (fun hHeld => ?_)
      clear hK K
      refine zdk (a' := ?_) ?_ ?_
      rotate_left
      ·show Act.put _ (some 9) _ = _
       simp only [Act.put, List.setIfInBounds_toArray, List.set_cons_zero, List.set_cons_succ, zbz, zcc]
       rfl
      refine one_ (i := 6) (N := some 13) #[true, true, true, true, true, true, true, false, false] rfl rfl (zei HT_.out (by kernel_rfl)) (by decide) (fun K hK => ?_)
      refine Kd.zdq (Kd.int .u8) _ 5 ?hg (N := 13) ?hd (xs := ([(a0_1) % 256] : List Int)) (inner := [.int .u8 ((a0_1) % 256)]) (ok := fun _ => True) (okp := fun _ => True) ?hr ?hp (fun _ hk => hk) trivial (Below.refl _ _) (Nat.le_refl _) (by simp) ?_; (case hd => rfl); (case hg => rfl); (case hr => first | (go_simp; done) | (go_simp; rfl)); (case hp => exact (Reps.one (show Kd.M (Kd.int .u8) _ _ _ ((a0_1) % 256) [.int .u8 ((a0_1) % 256)] from rfl) (Reps.none _ _)))
      intro v157 w21 ho22 hb hg_ hnew_
      clear hg_ hnew_
      (first | rw [← Ny156.out] at ho22 | (simp only [Int.reduceToNat] at ho22; rw [← Ny156.out] at ho22))
      have n0_ := Aside0.mk (Kd.zez (by (with_reducible repeat (first | apply Kd.zbb | apply Kd.zba | apply Kd.zbf)); exact HO155.out) (Kd.zhg ho22) hb)
      have n1_ := Aside0.mk (Kd.zdn (Kd.zhf ho22 (Kd.R_lt (by (with_reducible repeat (first | apply Kd.zbb | apply Kd.zba | apply Kd.zbf)); exact HO155.out))) (zaz (by repeat (first | (with_reducible first | exact HB.out | apply zad | apply zac | apply zae | refine zah ?_ GE152.out) | exact HB.out))))
      have n2_ := Aside0.mk (zbn (g := gb152) (o := .cells #[.int .i64 a0_0, .int .i64 a0_1, .int .i64 a0_2, .string a0_3, .string a0_4, .string a0_5, .string a0_6, .string a0_7, .string a0_8, .slice A0_9 l0_9.length c0_9, .int .i64 a0_10, .int .i64 a0_11, .int .i64 a0_12, .slice A0_13 l0_13.length c0_13] 38 (0, 0)) (by (with_reducible repeat (first | refine zag ?_ _ | refine zai ?_ | refine zaf ?_ _)); exact BK152.out) hb)
      have n3_ := Aside0.mk (zbl (by repeat (first | (with_reducible first | exact HB.out | apply zad | apply zac | apply zae | refine zah ?_ GE152.out) | exact HB.out)) hb)
      clear HO155
      clear BK152
      clear HB
      have HO155 := n0_
      have HO158 := n1_
      have BK152 := n2_
      have HB := n3_
      clear n0_ n1_ n2_ n3_
      clear hb ho22
      refine hK.out _ _ ⟨(zaa BK152.out 0).trans rfl, (zaa BK152.out 1).trans rfl, (zaa BK152.out 2).trans rfl, (zaa BK152.out 3).trans rfl, (zaa BK152.out 4).trans rfl, (zaa BK152.out 5).trans rfl, (zaa BK152.out 6).trans rfl, (zaa BK152.out 7).trans rfl, (zaa BK152.out 8).trans rfl, (zaa BK152.out 9).trans rfl, (zaa BK152.out 10).trans rfl, (zaa BK152.out 11).trans rfl, (zaa BK152.out 12).trans rfl, (zaa BK152.out 13).trans rfl⟩ (fun hHeld => ?_)
      clear hK K
      refine zdk (a' := ?_) ?_ ?_
      rotate_left
      ·show Act.put _ (some 13) _ = _
       simp only [Act.put, List.setIfInBounds_toArray, List.set_cons_zero, List.set_cons_succ, zbz, zcc]
       rfl
      exact zdk (by simp only [putAll, Act.put, List.setIfInBounds_toArray, List.set_cons_zero, List.set_cons_succ]) (hCont (v154, v157) _ ⟨hHeld, (by (with_reducible repeat (first | apply Kd.zbb | apply Kd.zba | apply Kd.zbf)); exact Kd.zbh HO155.out (fun _ hk => hk.2)), (by (with_reducible repeat (first | apply Kd.zbb | apply Kd.zba | apply Kd.zbf)); exact Kd.zbh HO158.out (fun _ hk => hk.2)), (by (with_reducible repeat (first | refine zag ?_ _ | refine zai ?_ | refine zaf ?_ _)); exact BK152.out), (by repeat (first | (with_reducible first | exact HB.out | apply zad | apply zac | apply zae | refine zah ?_ GE152.out) | exact HB.out))⟩)
     ·skip
      refine Kd.zdq (Kd.int .u8) _ 5 ?hg (N := 13) ?hd (xs := ([(a0_1) % 256] : List Int)) (inner := [.int .u8 ((a0_1) % 256)]) (ok := fun _ => True) (okp := fun _ => True) ?hr ?hp (fun _ hk => hk) trivial (Below.refl _ _) (Nat.le_refl _) (by simp) ?_; (case hd => rfl); (case hg => rfl); (case hr => first | (go_simp; done) | (go_simp; rfl)); (case hp => exact (Reps.one (show Kd.M (Kd.int .u8) _ _ _ ((a0_1) % 256) [.int .u8 ((a0_1) % 256)] from rfl) (Reps.none _ _)))
      intro v157 w20 ho21 hb hg_ hnew_
      clear hg_ hnew_
      (first | rw [← Ny156.out] at ho21 | (simp only [Int.reduceToNat] at ho21; rw [← Ny156.out] at ho21))
      have n0_ := Aside0.mk (Kd.zdn ho21 (zaz (by repeat (first | (with_reducible first | exact HB.out | apply zad | apply zac | apply zae | refine zah ?_ GE152.out) | exact HB.out))))
      have n1_ := Aside0.mk (zbn (g := gb152) (o := .cells #[.int .i64 a0_0, .int .i64 a0_1, .int .i64 a0_2, .string a0_3, .string a0_4, .string a0_5, .string a0_6, .string a0_7, .string a0_8, .slice A0_9 l0_9.length c0_9, .int .i64 a0_10, .int .i64 a0_11, .int .i64 a0_12, .slice A0_13 l0_13.length c0_13] 38 (0, 0)) (by (with_reducible repeat (first | refine zag ?_ _ | refine zai ?_ | refine zaf ?_ _)); exact BK152.out) hb)
      have n2_ := Aside0.mk (zbl (by repeat (first | (with_reducible first | exact HB.out | apply zad | apply zac | apply zae | refine zah ?_ GE152.out) | exact HB.out)) hb)
      clear BK152
      clear HB
      have HO158 := n0_
      have BK152 := n1_
      have HB := n2_
      clear n0_ n1_ n2_
      clear hb ho21
      refine hK.out _ _ ⟨(zaa BK152.out 0).trans rfl, (zaa BK152.out 1).trans rfl, (zaa BK152.out 2).trans rfl, (zaa BK152.out 3).trans rfl, (zaa BK152.out 4).trans rfl, (zaa BK152.out 5).trans rfl, (zaa BK152.out 6).trans rfl, (zaa BK152.out 7).trans rfl, (zaa BK152.out 8).trans rfl, (zaa BK152.out 9).trans rfl, (zaa BK152.out 10).trans rfl, (zaa BK152.out 11).trans rfl, (zaa BK152.out 12).trans rfl, (zaa BK152.out 13).trans rfl⟩ (fun hHeld => ?_)
      clear hK K
      refine zdk (a' := ?_) ?_ ?_
      rotate_left
      ·show Act.put _ (some 13) _ = _
       simp only [Act.put, List.setIfInBounds_toArray, List.set_cons_zero, List.set_cons_succ, zbz, zcc]
       rfl
      refine one_ (i := 2) (N := some 9) #[true, true, true, true, true, true, true, false, false] rfl rfl (zei HT_.out (by kernel_rfl)) (by decide) (fun K hK => ?_)
      refine zhj Try.func48 (by kernel_rfl) rfl #[.slice none 0 0, .int .i64 a0_0] (by rfl) rfl rfl (by (try simp only [List.map_toArray, List.map_cons, List.map_nil]); first | done | rfl | (simp only [List.length_drop, List.length_take]; rfl)) ?_
      refine (zao.calls k (fun k_ => some k_ = (.slice none 0 0 : Value).ownBlock) (.slice none 0 0) ([] : List Int) a0_0 t153 w _ ?side1 ?side2 A2.out).mono ?_
      (case side1 => repeat (first | (with_reducible first | exact HB.out | apply zad | apply zac | apply zae | refine zah ?_ GE152.out) | exact HB.out))
      (case side2 => exact Kd.zdf _ _ _ _ _)
      rintro e w22 ⟨v154, rfl, ho0, hb, hkp⟩
      refine ⟨_, rfl, ?_⟩
      have n0_ := Aside0.mk (zbr (by (with_reducible repeat (first | refine zag ?_ _ | refine zai ?_ | refine zaf ?_ _)); exact BK152.out) hkp (fun hs_ => (fun e_ => by simp [Value.ownBlock] at e_) hs_))
      have n1_ := Aside0.mk (Kd.zbh (ok' := fun k_ => some k_ ≠ (v154 : Value).ownBlock) (Kd.zgg (HO158.out) hkp (fun k_ hk_ hs_ => (fun e_ => by simp [Value.ownBlock] at e_) hs_)) (fun k_ hk_ => fun e_ => Or.elim (ho0.1 k_ e_.symm) (fun hs_ => hk_.2.1 hs_) (fun hn_ => Nat.not_le.2 hk_.2.2 hn_)))
      have n2_ := Aside0.mk (Kd.zbh (ok' := fun k_ => some k_ ≠ (v157 : Value).ownBlock) ho0 (fun k_ hk_ => Or.elim hk_ (fun hs_ => absurd hs_ (by simp [Value.ownBlock])) (fun hn_ => (Kd.fresh' (Kd.R_lt (by (with_reducible repeat (first | apply Kd.zbb | apply Kd.zba | apply Kd.zbf)); exact HO158.out)) k_ hn_))))
      have n3_ := Aside0.mk (hb)
      clear BK152
      clear HO158
      clear HB
      have BK152 := n0_
      have HO158 := n1_
      have HO155 := n2_
      have HB := n3_
      clear n0_ n1_ n2_ n3_
      (try clear hb)
      (try clear hkp)
      (try clear ho0)
      refine hK.out _ _ ⟨(zaa BK152.out 0).trans rfl, (zaa BK152.out 1).trans rfl, (zaa BK152.out 2).trans rfl, (zaa BK152.out 3).trans rfl, (zaa BK152.out 4).trans rfl, (zaa BK152.out 5).trans rfl, (zaa BK152.out 6).trans rfl, (zaa BK152.out 7).trans rfl, (zaa BK152.out 8).trans rfl, (zaa BK152.out 9).trans rfl, (zaa BK152.out 10).trans rfl, (zaa BK152.out 11).trans rfl, (zaa BK152.out 12).trans rfl, (zaa BK152.out 13).trans rfl⟩ (fun hHeld => ?_)
      clear hK K
      refine zdk (a' := ?_) ?_ ?_
      rotate_left
      ·show Act.put _ (some 9) _ = _
       simp only [Act.put, List.setIfInBounds_toArray, List.set_cons_zero, List.set_cons_succ, zbz, zcc]
       rfl
      exact zdk (by simp only [putAll, Act.put, List.setIfInBounds_toArray, List.set_cons_zero, List.set_cons_succ]) (hCont (v154, v157) _ ⟨hHeld, (by (with_reducible repeat (first | apply Kd.zbb | apply Kd.zba | apply Kd.zbf)); exact HO155.out), (by (with_reducible repeat (first | apply Kd.zbb | apply Kd.zba | apply Kd.zbf)); exact HO158.out), (by (with_reducible repeat (first | refine zag ?_ _ | refine zai ?_ | refine zaf ?_ _)); exact BK152.out), (by repeat (first | (with_reducible first | exact HB.out | apply zad | apply zac | apply zae | refine zah ?_ GE152.out) | exact HB.out))⟩)
    rintro ⟨v154, v157⟩ w23 ⟨hS_, h0_, h1_, h2_, h3_⟩
    have n0_ : Aside0 (Kd.R (Kd.int .u8) 5 w23 w.heap.size (fun k_ => some k_ ≠ (v157 : Value).ownBlock) v154 t153) := ⟨h0_⟩
    have n1_ : Aside0 (Kd.R (Kd.int .u8) 5 w23 w.heap.size (fun k_ => some k_ ≠ (v154 : Value).ownBlock) v157 y156) := ⟨h1_⟩
    have n2_ : Aside0 (w23.heap[gb152]? = some (.cells #[.int .i64 a0_0, .int .i64 a0_1, .int .i64 a0_2, .string a0_3, .string a0_4, .string a0_5, .string a0_6, .string a0_7, .string a0_8, .slice A0_9 l0_9.length c0_9, .int .i64 a0_10, .int .i64 a0_11, .int .i64 a0_12, .slice A0_13 l0_13.length c0_13] 38 (0, 0))) := ⟨h2_⟩
    have n3_ : Aside0 (Below w.heap.size w w23) := ⟨h3_⟩
    clear BK152
    clear HB
    clear h0_ h1_ h2_ h3_
    have HO155 := n0_
    have HO158 := n1_
    have BK152 := n2_
    have HB := n3_
    clear n0_ n1_ n2_ n3_
    have hHeld : w23.cell? ⟨gb152, 0, none⟩ = some (.int .i64 a0_0) ∧ w23.cell? ⟨gb152, 1, none⟩ = some (.int .i64 a0_1) ∧ w23.cell? ⟨gb152, 2, none⟩ = some (.int .i64 a0_2) ∧ w23.cell? ⟨gb152, 3, none⟩ = some (.string a0_3) ∧ w23.cell? ⟨gb152, 4, none⟩ = some (.string a0_4) ∧ w23.cell? ⟨gb152, 5, none⟩ = some (.string a0_5) ∧ w23.cell? ⟨gb152, 6, none⟩ = some (.string a0_6) ∧ w23.cell? ⟨gb152, 7, none⟩ = some (.string a0_7) ∧ w23.cell? ⟨gb152, 8, none⟩ = some (.string a0_8) ∧ w23.cell? ⟨gb152, 9, none⟩ = some (.slice A0_9 l0_9.length c0_9) ∧ w23.cell? ⟨gb152, 10, none⟩ = some (.int .i64 a0_10) ∧ w23.cell? ⟨gb152, 11, none⟩ = some (.int .i64 a0_11) ∧ w23.cell? ⟨gb152, 12, none⟩ = some (.int .i64 a0_12) ∧ w23.cell? ⟨gb152, 13, none⟩ = some (.slice A0_13 l0_13.length c0_13) := hS_
    obtain ⟨Ao25, co25, eo25⟩ := Kd.zbu HO158.out
    (first | subst eo25 | (injection eo25 with f1_ f2_ f3_; have f4_ := f1_.symm; have f5_ := f3_.symm; clear f1_ f2_ f3_; subst f4_; subst f5_))
    refine zdk (a' := ?_) ?_ ?_
    rotate_left
    ·simp only [putAll, Act.put, List.setIfInBounds_toArray, List.set_cons_zero, List.set_cons_succ]
     rfl
    refine one_ (i := 7) (N := some 14) #[true, true, true, true, true, true, true, true, false] rfl rfl (zei HT_.out (by kernel_rfl)) (by decide) (fun K hK => ?_)
    refine Kd.zda (Kd.int .u8) (w0 := w) w.heap.size (by rfl) (.tmp 9) (.tmp 13) 27 5 (.int .u8 0) 1 rfl Try.underlying27 info5 rfl (by decide) (by omega) v154 t153 y156 _ _ _ (fun k_ => some k_ ≠ (.slice Ao25 y156.length co25 : Value).ownBlock) (fun _ => False) rfl rfl ?aO ?aR (fun _ _ h => h) (fun _ h => h.elim) ?aF ?aB ?aS ?aL ?_
    (case aR => repeat (first | exact (Kd.zed HO158.out).2.2 | (with_reducible refine Kd.zev ?_ _) | (with_reducible refine Kd.zeu ?_ _) | (with_reducible refine Kd.zfw ?_)))
    (case aB => exact (by repeat (first | (with_reducible first | exact HB.out | apply zad | apply zac | apply zae | refine zah ?_ GE152.out) | exact HB.out)))
    (case aF => exact (fun k_ hk => Kd.fresh' (Kd.R_lt (by (with_reducible repeat (first | apply Kd.zbb | apply Kd.zba | apply Kd.zbf)); exact HO158.out)) k_ hk))
    (case aO => exact (by (with_reducible repeat (first | apply Kd.zbb | apply Kd.zba | apply Kd.zbf)); exact HO155.out))
    (case aS => exact (zaz (by repeat (first | (with_reducible first | exact HB.out | apply zad | apply zac | apply zae | refine zah ?_ GE152.out) | exact HB.out))))
    (case aL => have := LMc3.out; omega)
    intro v160 w24 ho hb hg hat
    rw [← Ny159.out] at ho
    have n0_ := Aside0.mk (zbm (g := gb152) (o := .cells #[.int .i64 a0_0, .int .i64 a0_1, .int .i64 a0_2, .string a0_3, .string a0_4, .string a0_5, .string a0_6, .string a0_7, .string a0_8, .slice A0_9 l0_9.length c0_9, .int .i64 a0_10, .int .i64 a0_11, .int .i64 a0_12, .slice A0_13 l0_13.length c0_13] 38 (0, 0)) (by (with_reducible repeat (first | refine zag ?_ _ | refine zai ?_ | refine zaf ?_ _)); exact BK152.out) hg (Kd.R_ne HO155.out BK152.out (by decide)))
    have n1_ := Aside0.mk (Kd.zfu (ok := (fun _ => True)) (by (with_reducible repeat (first | apply Kd.zbb | apply Kd.zba | apply Kd.zbf)); exact Kd.zbh HO158.out (fun _ hk => ⟨trivial, hk⟩)) hg hat)
    have n2_ := Aside0.mk (hb)
    have n3_ := Aside0.mk (ho)
    clear BK152
    clear HO158
    clear HB
    clear HO155
    have BK152 := n0_
    have HO158 := n1_
    have HB := n2_
    have HO161 := n3_
    clear n0_ n1_ n2_ n3_
    clear ho hb hg hat
    refine hK.out _ _ ⟨(zaa BK152.out 0).trans rfl, (zaa BK152.out 1).trans rfl, (zaa BK152.out 2).trans rfl, (zaa BK152.out 3).trans rfl, (zaa BK152.out 4).trans rfl, (zaa BK152.out 5).trans rfl, (zaa BK152.out 6).trans rfl, (zaa BK152.out 7).trans rfl, (zaa BK152.out 8).trans rfl, (zaa BK152.out 9).trans rfl, (zaa BK152.out 10).trans rfl, (zaa BK152.out 11).trans rfl, (zaa BK152.out 12).trans rfl, (zaa BK152.out 13).trans rfl⟩ (fun hHeld => ?_)
    clear hK K
    refine zdk (a' := ?_) ?_ ?_
    rotate_left
    ·show Act.put _ (some 14) _ = _
     simp only [Act.put, List.setIfInBounds_toArray, List.set_cons_zero, List.set_cons_succ, zbz, zcc]
     rfl
    refine zde (i := 8) (N := some 4) (v := ?_) (a' := ?_) #[true, true, true, true, true, true, true, true, true] rfl rfl (zcn HT_.out (by kernel_rfl)) (fun _ _ _ h => h) (Or.inl ⟨by rfl, ?_⟩) ?_ ?_
    rotate_left
    ·intro w'
     go_simp
     with_reducible rfl
    rotate_left
    ·simp only [Act.put, List.setIfInBounds_toArray, List.set_cons_zero, List.set_cons_succ, zbz, zcc]
     rfl
    refine zis (zgd HT_.out (by kernel_rfl)) ?_
    have hcz26_0 : w24.cell? ⟨gb152, 0, none⟩ = some (.int .i64 a0_0) := (zaa BK152.out 0).trans rfl
    have hcz26_1 : w24.cell? ⟨gb152, 1, none⟩ = some (.int .i64 a0_1) := (zaa BK152.out 1).trans rfl
    have hcz26_2 : w24.cell? ⟨gb152, 2, none⟩ = some (.int .i64 a0_2) := (zaa BK152.out 2).trans rfl
    have hcz26_3 : w24.cell? ⟨gb152, 3, none⟩ = some (.string a0_3) := (zaa BK152.out 3).trans rfl
    have hcz26_4 : w24.cell? ⟨gb152, 4, none⟩ = some (.string a0_4) := (zaa BK152.out 4).trans rfl
    have hcz26_5 : w24.cell? ⟨gb152, 5, none⟩ = some (.string a0_5) := (zaa BK152.out 5).trans rfl
    have hcz26_6 : w24.cell? ⟨gb152, 6, none⟩ = some (.string a0_6) := (zaa BK152.out 6).trans rfl
    have hcz26_7 : w24.cell? ⟨gb152, 7, none⟩ = some (.string a0_7) := (zaa BK152.out 7).trans rfl
    have hcz26_8 : w24.cell? ⟨gb152, 8, none⟩ = some (.string a0_8) := (zaa BK152.out 8).trans rfl
    have hcz26_9 : w24.cell? ⟨gb152, 9, none⟩ = some (.slice A0_9 l0_9.length c0_9) := (zaa BK152.out 9).trans rfl
    have hcz26_10 : w24.cell? ⟨gb152, 10, none⟩ = some (.int .i64 a0_10) := (zaa BK152.out 10).trans rfl
    have hcz26_11 : w24.cell? ⟨gb152, 11, none⟩ = some (.int .i64 a0_11) := (zaa BK152.out 11).trans rfl
    have hcz26_12 : w24.cell? ⟨gb152, 12, none⟩ = some (.int .i64 a0_12) := (zaa BK152.out 12).trans rfl
    have hcz26_13 : w24.cell? ⟨gb152, 13, none⟩ = some (.slice A0_13 l0_13.length c0_13) := (zaa BK152.out 13).trans rfl
    have hfz26_0 := zab BK152.out 0
    have hfz26_1 := zab BK152.out 1
    have hfz26_2 := zab BK152.out 2
    have hfz26_3 := zab BK152.out 3
    have hfz26_4 := zab BK152.out 4
    have hfz26_5 := zab BK152.out 5
    have hfz26_6 := zab BK152.out 6
    have hfz26_7 := zab BK152.out 7
    have hfz26_8 := zab BK152.out 8
    have hfz26_9 := zab BK152.out 9
    have hfz26_10 := zab BK152.out 10
    have hfz26_11 := zab BK152.out 11
    have hfz26_12 := zab BK152.out 12
    have hfz26_13 := zab BK152.out 13
    try go_wp2
    have n0_ := Aside0.mk (Kd.zbf HO158.out)
    have n1_ := Aside0.mk (Kd.zbf HO161.out)
    have n2_ := Aside0.mk (zai BK152.out)
    have n3_ := Aside0.mk (zae HB.out)
    clear HO158
    clear HO161
    clear BK152
    clear HB
    have HO158 := n0_
    have HO161 := n1_
    have BK152 := n2_
    have HB := n3_
    clear n0_ n1_ n2_ n3_
    refine zho (n := 12) (S := fun w' => w'.cell? ⟨gb152, 0, none⟩ = some (.int .i64 a0_0) ∧ w'.cell? ⟨gb152, 1, none⟩ = some (.int .i64 a0_1) ∧ w'.cell? ⟨gb152, 2, none⟩ = some (.int .i64 a0_2) ∧ w'.cell? ⟨gb152, 3, none⟩ = some (.string a0_3) ∧ w'.cell? ⟨gb152, 4, none⟩ = some (.string a0_4) ∧ w'.cell? ⟨gb152, 5, none⟩ = some (.string a0_5) ∧ w'.cell? ⟨gb152, 6, none⟩ = some (.string a0_6) ∧ w'.cell? ⟨gb152, 7, none⟩ = some (.string a0_7) ∧ w'.cell? ⟨gb152, 8, none⟩ = some (.string a0_8) ∧ w'.cell? ⟨gb152, 9, none⟩ = some (.slice A0_9 l0_9.length c0_9) ∧ w'.cell? ⟨gb152, 10, none⟩ = some (.int .i64 a0_10) ∧ w'.cell? ⟨gb152, 11, none⟩ = some (.int .i64 a0_11) ∧ w'.cell? ⟨gb152, 12, none⟩ = some (.int .i64 a0_12) ∧ w'.cell? ⟨gb152, 13, none⟩ = some (.slice A0_13 l0_13.length c0_13)) (ds := []) #[false, false, false, false, false, false, false, false, false, false, false, false] (by kernel_rfl) rfl rfl ⟨(zaa BK152.out 0).trans rfl, (zaa BK152.out 1).trans rfl, (zaa BK152.out 2).trans rfl, (zaa BK152.out 3).trans rfl, (zaa BK152.out 4).trans rfl, (zaa BK152.out 5).trans rfl, (zaa BK152.out 6).trans rfl, (zaa BK152.out 7).trans rfl, (zaa BK152.out 8).trans rfl, (zaa BK152.out 9).trans rfl, (zaa BK152.out 10).trans rfl, (zaa BK152.out 11).trans rfl, (zaa BK152.out 12).trans rfl, (zaa BK152.out 13).trans rfl⟩ (fun hHeld => ?_); refine zet zaq.tab4 zaq.bits4 (fun HT_ HW_ => ?_)
    generalize w24.drew = w27 at HO158 HO161 BK152 HB hHeld ⊢
    refine zde (i := 0) (N := some 19) (v := ?_) (a' := ?_) #[true, false, false, false, false, false, false, false, false, false, false, false] rfl rfl (zcn HT_.out (by kernel_rfl)) (fun _ _ _ h => h) (Or.inl ⟨by rfl, ?_⟩) ?_ ?_
    rotate_left
    ·intro w'
     go_simp
     with_reducible rfl
    rotate_left
    ·simp only [Act.put, List.setIfInBounds_toArray, List.set_cons_zero, List.set_cons_succ, zbz, zcc]
     rfl
    refine zde (i := 1) (N := some 20) (v := ?_) (a' := ?_) #[true, true, false, false, false, false, false, false, false, false, false, false] rfl rfl (zcn HT_.out (by kernel_rfl)) (fun _ _ _ h => h) (Or.inl ⟨by rfl, ?_⟩) ?_ ?_
    rotate_left
    ·intro w'
     go_simp
     with_reducible rfl
    rotate_left
    ·simp only [Act.put, List.setIfInBounds_toArray, List.set_cons_zero, List.set_cons_succ, zbz, zcc]
     rfl
    refine zgv (i := 2) (N := some 21) (v := ?_) (a' := ?_) #[true, true, true, false, false, false, false, false, false, false, false, false] rfl rfl (zdo HT_.out HW_.out (by kernel_rfl)) (fun _ _ _ h => h) (Or.inl ⟨by rfl, ?_⟩) hHeld ?_ ?_
    rotate_left
    ·rintro w' ⟨s0, s1, s2, s3, s4, s5, s6, s7, s8, s9, s10, s11, s12, s13⟩
     go_simp
     with_reducible rfl
    rotate_left
    ·simp only [Act.put, List.setIfInBounds_toArray, List.set_cons_zero, List.set_cons_succ, zbz, zcc]
     rfl
    refine one_ (i := 3) (N := some 22) #[true, true, true, true, false, false, false, false, false, false, false, false] rfl rfl (zei HT_.out (by kernel_rfl)) (by decide) (fun K hK => ?_)
    refine zhj Try.func21 (by kernel_rfl) rfl #[.agg #[.int .i64 a0_2, .string a0_3, .string a0_4, .string a0_5, .string a0_6, .string a0_7, .string a0_8, .slice A0_9 l0_9.length c0_9, .int .i64 a0_10, .int .i64 a0_11, .int .i64 a0_12]] (by rfl) rfl rfl (by (try simp only [List.map_toArray, List.map_cons, List.map_nil]); first | done | rfl | (simp only [List.length_drop, List.length_take]; rfl)) ?_
    with_reducible refine (zbp.calls a0_2 a0_3 a0_4 a0_5 a0_6 a0_7 a0_8 _ _ l0_9 a0_10 a0_11 a0_12 false _ ?side1 ?side2 A5.out).mono ?_
    (case side1 => repeat (first | exact (Kd.zci HR0_9.out HB.out) | (with_reducible refine Kd.zev ?_ _) | (with_reducible refine Kd.zeu ?_ _) | (with_reducible refine Kd.zfw ?_)))
    (case side2 => exact HC0_9.out)
    rintro e w28 ⟨rfl, hb⟩
    refine ⟨_, rfl, ?_⟩
    have n0_ := Aside0.mk (Kd.zcq (by (with_reducible repeat (first | apply Kd.zbb | apply Kd.zba | apply Kd.zbf)); exact HO158.out) hb)
    have n1_ := Aside0.mk (Kd.zcq (by (with_reducible repeat (first | apply Kd.zbb | apply Kd.zba | apply Kd.zbf)); exact HO161.out) hb)
    have n2_ := Aside0.mk (zbn (g := gb152) (o := .cells #[.int .i64 a0_0, .int .i64 a0_1, .int .i64 a0_2, .string a0_3, .string a0_4, .string a0_5, .string a0_6, .string a0_7, .string a0_8, .slice A0_9 l0_9.length c0_9, .int .i64 a0_10, .int .i64 a0_11, .int .i64 a0_12, .slice A0_13 l0_13.length c0_13] 38 (0, 0)) (by (with_reducible repeat (first | refine zag ?_ _ | refine zai ?_ | refine zaf ?_ _)); exact BK152.out) hb)
    have n3_ := Aside0.mk (zbl (by repeat (first | (with_reducible first | exact HB.out | apply zad | apply zac | apply zae | refine zah ?_ GE152.out) | exact HB.out)) hb)
    clear HO158
    clear HO161
    clear BK152
    clear HB
    have HO158 := n0_
    have HO161 := n1_
    have BK152 := n2_
    have HB := n3_
    clear n0_ n1_ n2_ n3_
    (try clear hb)
    (try clear hb2)
    (try clear hk)
    (try clear hi)
    refine hK.out _ _ ⟨(zaa BK152.out 0).trans rfl, (zaa BK152.out 1).trans rfl, (zaa BK152.out 2).trans rfl, (zaa BK152.out 3).trans rfl, (zaa BK152.out 4).trans rfl, (zaa BK152.out 5).trans rfl, (zaa BK152.out 6).trans rfl, (zaa BK152.out 7).trans rfl, (zaa BK152.out 8).trans rfl, (zaa BK152.out 9).trans rfl, (zaa BK152.out 10).trans rfl, (zaa BK152.out 11).trans rfl, (zaa BK152.out 12).trans rfl, (zaa BK152.out 13).trans rfl⟩ (fun hHeld => ?_)
    clear hK K
    refine zdk (a' := ?_) ?_ ?_
    rotate_left
    ·show Act.put _ (some 22) _ = _
     simp only [Act.put, List.setIfInBounds_toArray, List.set_cons_zero, List.set_cons_succ, zbz, zcc]
     rfl
    refine zde (i := 4) (N := some 23) (v := ?_) (a' := ?_) #[true, true, true, true, true, false, false, false, false, false, false, false] rfl rfl (zcn HT_.out (by kernel_rfl)) (fun _ _ _ h => h) (Or.inl ⟨by rfl, ?_⟩) ?_ ?_
    rotate_left
    ·intro w'
     go_simp
     with_reducible rfl
    rotate_left
    ·simp only [Act.put, List.setIfInBounds_toArray, List.set_cons_zero, List.set_cons_succ, zbz, zcc]
     rfl
    refine zde (i := 5) (N := some 24) (v := undef) (a' := ?_) #[true, true, true, true, true, true, false, false, false, false, false, false] rfl rfl (zcn HT_.out (by kernel_rfl)) (fun _ _ _ h => h) (Or.inr ⟨by rfl, rfl⟩) ?_ ?_
    rotate_left
    ·simp only [Act.put, List.setIfInBounds_toArray, List.set_cons_zero, List.set_cons_succ, zbz, zcc]
     rfl
    refine zde (i := 6) (N := some 25) (v := undef) (a' := ?_) #[true, true, true, true, true, true, true, false, false, false, false, false] rfl rfl (zcn HT_.out (by kernel_rfl)) (fun _ _ _ h => h) (Or.inr ⟨by rfl, rfl⟩) ?_ ?_
    rotate_left
    ·simp only [Act.put, List.setIfInBounds_toArray, List.set_cons_zero, List.set_cons_succ, zbz, zcc]
     rfl
    refine zde (i := 7) (N := some 26) (v := undef) (a' := ?_) #[true, true, true, true, true, true, true, true, false, false, false, false] rfl rfl (zcn HT_.out (by kernel_rfl)) (fun _ _ _ h => h) (Or.inr ⟨by rfl, rfl⟩) ?_ ?_
    rotate_left
    ·simp only [Act.put, List.setIfInBounds_toArray, List.set_cons_zero, List.set_cons_succ, zbz, zcc]
     rfl
    refine zde (i := 8) (N := some 27) (v := undef) (a' := ?_) #[true, true, true, true, true, true, true, true, true, false, false, false] rfl rfl (zcn HT_.out (by kernel_rfl)) (fun _ _ _ h => h) (Or.inr ⟨by rfl, rfl⟩) ?_ ?_
    rotate_left
    ·simp only [Act.put, List.setIfInBounds_toArray, List.set_cons_zero, List.set_cons_succ, zbz, zcc]
     rfl
    refine zde (i := 9) (N := some 28) (v := ?_) (a' := ?_) #[true, true, true, true, true, true, true, true, true, true, false, false] rfl rfl (zcn HT_.out (by kernel_rfl)) (fun _ _ _ h => h) (Or.inl ⟨by rfl, ?_⟩) ?_ ?_
    rotate_left
    ·intro w'
     go_simp
     with_reducible rfl
    rotate_left
    ·simp only [Act.put, List.setIfInBounds_toArray, List.set_cons_zero, List.set_cons_succ, zbz, zcc]
     rfl
    refine zde (i := 10) (N := some 2) (v := ?_) (a' := ?_) #[true, true, true, true, true, true, true, true, true, true, true, false] rfl rfl (zcn HT_.out (by kernel_rfl)) (fun _ _ _ h => h) (Or.inl ⟨by rfl, ?_⟩) ?_ ?_
    rotate_left
    ·intro w'
     go_simp
     with_reducible rfl
    rotate_left
    ·simp only [Act.put, List.setIfInBounds_toArray, List.set_cons_zero, List.set_cons_succ, zbz, zcc]
     rfl
    refine zde (i := 11) (N := some 3) (v := ?_) (a' := ?_) #[true, true, true, true, true, true, true, true, true, true, true, true] rfl rfl (zcn HT_.out (by kernel_rfl)) (fun _ _ _ h => h) (Or.inl ⟨by rfl, ?_⟩) ?_ ?_
    rotate_left
    ·intro w'
     go_simp
     with_reducible rfl
    rotate_left
    ·simp only [Act.put, List.setIfInBounds_toArray, List.set_cons_zero, List.set_cons_succ, zbz, zcc]
     rfl
    refine zis (zgd HT_.out (by kernel_rfl)) ?_
    try go_wp2
    go_ret2
    exact ⟨_, by first | rfl | (simp [zay, zax] <;> rfl) | (simp [*, zay, zax] <;> rfl), by (with_reducible repeat (first | apply Kd.zbb | apply Kd.zba | apply Kd.zbf)); exact Kd.zbh HO161.out (fun _ hk => trivial), by repeat (first | (with_reducible first | exact HB.out | apply zad | apply zac | apply zae | refine zah ?_ GE152.out) | exact HB.out)⟩
  ·rw [if_neg c4] at H
   have c4b0 : (a0_1 == 0) = false := beq_eq_false_iff_ne.mpr c4
   have c4b1 : (a0_1 != 0) = true := bne_iff_ne.mpr c4
   by_cases c29 : a0_1 = 1
   ·rw [if_pos c29] at H
    have c29b0 : (a0_1 == 1) = true := beq_iff_eq.mpr c29
    have c29b1 : (a0_1 != 1) = false := bne_eq_false_iff_eq.mpr c29
    clear c29
    replace H := Option.bind_eq_some_iff.mp H
    obtain ⟨t163, A300, H⟩ := H
    replace H : (if y159.length + t163.length < 140737488355328 then (some ((y159 ++ t163), ((l0_13.length : Int) == 0))) else (none)) = some (r1, r2) := H
    have A30 := Aside0.mk A300
    clear A300
    by_cases c31 : y159.length + t163.length < 140737488355328
    ·rw [if_pos c31] at H
     have LMc31 := Aside0.mk c31
     clear c31
     obtain ⟨y166, hy166⟩ : ∃ y_ : List Int, y_ = (y159 ++ t163) := ⟨_, rfl⟩
     replace H : (some (y166, ((l0_13.length : Int) == 0))) = some (r1, r2) := by first | (rw [hy166]; with_reducible exact H) | (have H2_ := (Option.bind_some _ _).symm.trans H; rw [hy166]; with_reducible exact H2_) | (have H2_ := (Option.bind_some _ _).symm.trans H; with_reducible exact H2_) | with_reducible exact H | (rw [hy166]; exact H) | exact H
     have Ny166 := Aside0.mk hy166
     clear hy166
     simp only [Option.some.injEq, Prod.mk.injEq] at H
     obtain ⟨rfl, rfl⟩ := H
     go_enter Try.func24, Try.ntmps24
     try go_wp2_with (first | ((with_reducible refine zcr (N := 1) rfl ?_); (try (refine zcv (by rfl) ?_; dsimp only)); refine zcm ?hg (N := 1) ?hd (cs := #[.int .i64 a0_0, .int .i64 a0_1, .int .i64 a0_2, .string a0_3, .string a0_4, .string a0_5, .string a0_6, .string a0_7, .string a0_8, .slice A0_9 l0_9.length c0_9, .int .i64 a0_10, .int .i64 a0_11, .int .i64 a0_12, .slice A0_13 l0_13.length c0_13]) (t := 38) ?hr ?_; (case hd => rfl); (case hg => rfl); (case hr => first | (go_simp; done) | (go_simp; rfl)); intro gb152 hg w32 hbox hb; have n0_ := Aside0.mk (zbl (by repeat (first | (with_reducible first | exact HB.out | apply zad | apply zac | apply zae) | exact HB.out)) hb); have n1_ := Aside0.mk (hbox); have n2_ := Aside0.mk ((by rw [hg]; exact (zaz (by repeat (first | (with_reducible first | exact HB.out | apply zad | apply zac | apply zae) | exact HB.out))) : w.heap.size ≤ gb152)); have n3_ := Aside0.mk ((by rw [hg]; exact (zaz (by repeat (first | (with_reducible first | exact HB.out | apply zad | apply zac | apply zae) | exact HB.out))) : w.heap.size ≤ gb152)); clear HB; have HB := n0_; have BK152 := n1_; have GW152 := n2_; have GE152 := n3_; clear n0_ n1_ n2_ n3_; clear hb hbox hg))
     have n0_ := Aside0.mk (zai BK152.out)
     have n1_ := Aside0.mk (zae HB.out)
     clear BK152
     clear HB
     have BK152 := n0_
     have HB := n1_
     clear n0_ n1_
     refine zho (n := 9) (S := fun w' => w'.cell? ⟨gb152, 0, none⟩ = some (.int .i64 a0_0) ∧ w'.cell? ⟨gb152, 1, none⟩ = some (.int .i64 a0_1) ∧ w'.cell? ⟨gb152, 2, none⟩ = some (.int .i64 a0_2) ∧ w'.cell? ⟨gb152, 3, none⟩ = some (.string a0_3) ∧ w'.cell? ⟨gb152, 4, none⟩ = some (.string a0_4) ∧ w'.cell? ⟨gb152, 5, none⟩ = some (.string a0_5) ∧ w'.cell? ⟨gb152, 6, none⟩ = some (.string a0_6) ∧ w'.cell? ⟨gb152, 7, none⟩ = some (.string a0_7) ∧ w'.cell? ⟨gb152, 8, none⟩ = some (.string a0_8) ∧ w'.cell? ⟨gb152, 9, none⟩ = some (.slice A0_9 l0_9.length c0_9) ∧ w'.cell? ⟨gb152, 10, none⟩ = some (.int .i64 a0_10) ∧ w'.cell? ⟨gb152, 11, none⟩ = some (.int .i64 a0_11) ∧ w'.cell? ⟨gb152, 12, none⟩ = some (.int .i64 a0_12) ∧ w'.cell? ⟨gb152, 13, none⟩ = some (.slice A0_13 l0_13.length c0_13)) (ds := []) #[false, false, false, false, false, false, false, false, false] (by kernel_rfl) rfl rfl ⟨(zaa BK152.out 0).trans rfl, (zaa BK152.out 1).trans rfl, (zaa BK152.out 2).trans rfl, (zaa BK152.out 3).trans rfl, (zaa BK152.out 4).trans rfl, (zaa BK152.out 5).trans rfl, (zaa BK152.out 6).trans rfl, (zaa BK152.out 7).trans rfl, (zaa BK152.out 8).trans rfl, (zaa BK152.out 9).trans rfl, (zaa BK152.out 10).trans rfl, (zaa BK152.out 11).trans rfl, (zaa BK152.out 12).trans rfl, (zaa BK152.out 13).trans rfl⟩ (fun hHeld => ?_); refine zet zaq.tab1 zaq.bits1 (fun HT_ HW_ => ?_)
     generalize w32.drew = w33 at BK152 HB hHeld ⊢
     refine zde (i := 0) (N := some 7) (v := ?_) (a' := ?_) #[true, false, false, false, false, false, false, false, false] rfl rfl (zcn HT_.out (by kernel_rfl)) (fun _ _ _ h => h) (Or.inl ⟨by rfl, ?_⟩) ?_ ?_
     rotate_left
     ·intro w'
      go_simp
      with_reducible rfl
     rotate_left
     ·simp only [Act.put, List.setIfInBounds_toArray, List.set_cons_zero, List.set_cons_succ, zbz, zcc]
      rfl
     refine zde (i := 3) (N := some 10) (v := ?_) (a' := ?_) #[true, false, false, true, false, false, false, false, false] rfl rfl (zcn HT_.out (by kernel_rfl)) (fun _ _ _ h => h) (Or.inl ⟨by rfl, ?_⟩) ?_ ?_
     rotate_left
     ·intro w'
      go_simp
      with_reducible rfl
     rotate_left
     ·simp only [Act.put, List.setIfInBounds_toArray, List.set_cons_zero, List.set_cons_succ, zbz, zcc]
      rfl
     refine zgv (i := 1) (N := some 8) (v := ?_) (a' := ?_) #[true, true, false, true, false, false, false, false, false] rfl rfl (zdo HT_.out HW_.out (by kernel_rfl)) (fun _ _ _ h => h) (Or.inl ⟨by rfl, ?_⟩) hHeld ?_ ?_
     rotate_left
     ·rintro w' ⟨s0, s1, s2, s3, s4, s5, s6, s7, s8, s9, s10, s11, s12, s13⟩
      go_simp
      with_reducible rfl
     rotate_left
     ·simp only [Act.put, List.setIfInBounds_toArray, List.set_cons_zero, List.set_cons_succ, zbz, zcc]
      rfl
     refine zgv (i := 4) (N := some 11) (v := ?_) (a' := ?_) #[true, true, false, true, true, false, false, false, false] rfl rfl (zdo HT_.out HW_.out (by kernel_rfl)) (fun _ _ _ h => h) (Or.inl ⟨by rfl, ?_⟩) hHeld ?_ ?_
     rotate_left
     ·rintro w' ⟨s0, s1, s2, s3, s4, s5, s6, s7, s8, s9, s10, s11, s12, s13⟩
      go_simp
      with_reducible rfl
     rotate_left
     ·simp only [Act.put, List.setIfInBounds_toArray, List.set_cons_zero, List.set_cons_succ, zbz, zcc]
      rfl
     refine zde (i := 5) (N := some 12) (v := ?_) (a' := ?_) #[true, true, false, true, true, true, false, false, false] rfl rfl (zcn HT_.out (by kernel_rfl)) (fun _ _ _ h => h) (Or.inl ⟨by rfl, ?_⟩) ?_ ?_
     rotate_left
     ·intro w'
      go_simp
      with_reducible rfl
     rotate_left
     ·simp only [Act.put, List.setIfInBounds_toArray, List.set_cons_zero, List.set_cons_succ, zbz, zcc]
      rfl
     refine zjf (σ := Value × Value) 2 #[true, true, true, true, true, true, true, false, false] (fun s_ => [(9, s_.1), (13, s_.2)]) (fun s_ w' => (w'.cell? ⟨gb152, 0, none⟩ = some (.int .i64 a0_0) ∧ w'.cell? ⟨gb152, 1, none⟩ = some (.int .i64 a0_1) ∧ w'.cell? ⟨gb152, 2, none⟩ = some (.int .i64 a0_2) ∧ w'.cell? ⟨gb152, 3, none⟩ = some (.string a0_3) ∧ w'.cell? ⟨gb152, 4, none⟩ = some (.string a0_4) ∧ w'.cell? ⟨gb152, 5, none⟩ = some (.string a0_5) ∧ w'.cell? ⟨gb152, 6, none⟩ = some (.string a0_6) ∧ w'.cell? ⟨gb152, 7, none⟩ = some (.string a0_7) ∧ w'.cell? ⟨gb152, 8, none⟩ = some (.string a0_8) ∧ w'.cell? ⟨gb152, 9, none⟩ = some (.slice A0_9 l0_9.length c0_9) ∧ w'.cell? ⟨gb152, 10, none⟩ = some (.int .i64 a0_10) ∧ w'.cell? ⟨gb152, 11, none⟩ = some (.int .i64 a0_11) ∧ w'.cell? ⟨gb152, 12, none⟩ = some (.int .i64 a0_12) ∧ w'.cell? ⟨gb152, 13, none⟩ = some (.slice A0_13 l0_13.length c0_13)) ∧ (Kd.R (Kd.int .u8) 5 w' w.heap.size (fun k_ => some k_ ≠ (s_.2 : Value).ownBlock) s_.1 t153) ∧ (Kd.R (Kd.int .u8) 5 w' w.heap.size (fun k_ => some k_ ≠ (s_.1 : Value).ownBlock) s_.2 y156) ∧ (w'.heap[gb152]? = some (.cells #[.int .i64 a0_0, .int .i64 a0_1, .int .i64 a0_2, .string a0_3, .string a0_4, .string a0_5, .string a0_6, .string a0_7, .string a0_8, .slice A0_9 l0_9.length c0_9, .int .i64 a0_10, .int .i64 a0_11, .int .i64 a0_12, .slice A0_13 l0_13.length c0_13] 38 (0, 0))) ∧ (Below w.heap.size w w')) ?_ ?_
     rotate_left
     ·intro hCont
      refine two_ (i := 2) (j := 6) (Ni := some 9) (Nj := some 13) #[true, true, true, true, true, true, false, false, false] #[true, true, false, true, true, true, true, false, false] rfl rfl rfl rfl (zip HT_.out (by kernel_rfl)) (by decide) (by decide) (fun K hK => ?_) (fun K hK => ?_)
      ·skip
       refine zhj Try.func48 (by kernel_rfl) rfl #[.slice none 0 0, .int .i64 a0_0] (by rfl) rfl rfl (by (try simp only [List.map_toArray, List.map_cons, List.map_nil]); first | done | rfl | (simp only [List.length_drop, List.length_take]; rfl)) ?_
       refine (zao.calls k (fun k_ => some k_ = (.slice none 0 0 : Value).ownBlock) (.slice none 0 0) ([] : List Int) a0_0 t153 w _ ?side1 ?side2 A2.out).mono ?_
       (case side1 => repeat (first | (with_reducible first | exact HB.out | apply zad | apply zac | apply zae | refine zah ?_ GE152.out) | exact HB.out))
       (case side2 => exact Kd.zdf _ _ _ _ _)
       rintro e w34 ⟨v154, rfl, ho0, hb, hkp⟩
       refine ⟨_, rfl, ?_⟩
       have n0_ := Aside0.mk (zbr (by (with_reducible repeat (first | refine zag ?_ _ | refine zai ?_ | refine zaf ?_ _)); exact BK152.out) hkp (fun hs_ => (fun e_ => by simp [Value.ownBlock] at e_) hs_))
       have n1_ := Aside0.mk (Kd.zbh (ok' := fun k_ => True) ho0 (fun k_ hk_ => trivial))
       have n2_ := Aside0.mk (hb)
       clear BK152
       clear HB
       have BK152 := n0_
       have HO155 := n1_
       have HB := n2_
       clear n0_ n1_ n2_
       (try clear hb)
       (try clear hkp)
       (try clear ho0)
       refine hK.out _ _ ⟨(zaa BK152.out 0).trans rfl, (zaa BK152.out 1).trans rfl, (zaa BK152.out 2).trans rfl, (zaa BK152.out 3).trans rfl, (zaa BK152.out 4).trans rfl, (zaa BK152.out 5).trans rfl, (zaa BK152.out 6).trans rfl, (zaa BK152.out 7).trans rfl, (zaa BK152.out 8).trans rfl, (zaa BK152.out 9).trans rfl, (zaa BK152.out 10).trans rfl, (zaa BK152.out 11).trans rfl, (zaa BK152.out 12).trans rfl, (zaa BK152.out 13).trans rfl⟩ (fun hHeld => ?_)
       clear hK K
       refine zdk (a' := ?_) ?_ ?_
       rotate_left
       ·show Act.put _ (some 9) _ = _
        simp only [Act.put, List.setIfInBounds_toArray, List.set_cons_zero, List.set_cons_succ, zbz, zcc]
        rfl
       refine one_ (i := 6) (N := some 13) #[true, true, true, true, true, true, true, false, false] rfl rfl (zei HT_.out (by kernel_rfl)) (by decide) (fun K hK => ?_)
       refine Kd.zdq (Kd.int .u8) _ 5 ?hg (N := 13) ?hd (xs := ([(a0_1) % 256] : List Int)) (inner := [.int .u8 ((a0_1) % 256)]) (ok := fun _ => True) (okp := fun _ => True) ?hr ?hp (fun _ hk => hk) trivial (Below.refl _ _) (Nat.le_refl _) (by simp) ?_; (case hd => rfl); (case hg => rfl); (case hr => first | (go_simp; done) | (go_simp; rfl)); (case hp => exact (Reps.one (show Kd.M (Kd.int .u8) _ _ _ ((a0_1) % 256) [.int .u8 ((a0_1) % 256)] from rfl) (Reps.none _ _)))
       intro v157 w35 ho36 hb hg_ hnew_
       clear hg_ hnew_
       (first | rw [← Ny156.out] at ho36 | (simp only [Int.reduceToNat] at ho36; rw [← Ny156.out] at ho36))
       have n0_ := Aside0.mk (Kd.zez (by (with_reducible repeat (first | apply Kd.zbb | apply Kd.zba | apply Kd.zbf)); exact HO155.out) (Kd.zhg ho36) hb)
       have n1_ := Aside0.mk (Kd.zdn (Kd.zhf ho36 (Kd.R_lt (by (with_reducible repeat (first | apply Kd.zbb | apply Kd.zba | apply Kd.zbf)); exact HO155.out))) (zaz (by repeat (first | (with_reducible first | exact HB.out | apply zad | apply zac | apply zae | refine zah ?_ GE152.out) | exact HB.out))))
       have n2_ := Aside0.mk (zbn (g := gb152) (o := .cells #[.int .i64 a0_0, .int .i64 a0_1, .int .i64 a0_2, .string a0_3, .string a0_4, .string a0_5, .string a0_6, .string a0_7, .string a0_8, .slice A0_9 l0_9.length c0_9, .int .i64 a0_10, .int .i64 a0_11, .int .i64 a0_12, .slice A0_13 l0_13.length c0_13] 38 (0, 0)) (by (with_reducible repeat (first | refine zag ?_ _ | refine zai ?_ | refine zaf ?_ _)); exact BK152.out) hb)
       have n3_ := Aside0.mk (zbl (by repeat (first | (with_reducible first | exact HB.out | apply zad | apply zac | apply zae | refine zah ?_ GE152.out) | exact HB.out)) hb)
       clear HO155
       clear BK152
       clear HB
       have HO155 := n0_
       have HO158 := n1_
       have BK152 := n2_
       have HB := n3_
       clear n0_ n1_ n2_ n3_
       clear hb ho36
       refine hK.out _ _ ⟨(zaa BK152.out 0).trans rfl, (zaa BK152.out 1).trans rfl, (zaa BK152.out 2).trans rfl, (zaa BK152.out 3).trans rfl, (zaa BK152.out 4).trans rfl, (zaa BK152.out 5).trans rfl, (zaa BK152.out 6).trans rfl, (zaa BK152.out 7).trans rfl, (zaa BK152.out 8).trans rfl, (zaa BK152.out 9).trans rfl, (zaa BK152.out 10).trans rfl, (zaa BK152.out 11).trans rfl, (zaa BK152.out 12).trans rfl, (zaa BK152.out 13).trans rfl⟩ (fun hHeld => ?_)
       clear hK K
       refine zdk (a' := ?_) ?_ ?_
       rotate_left
       ·show Act.put _ (some 13) _ = _
        simp only [Act.put, List.setIfInBounds_toArray, List.set_cons_zero, List.set_cons_succ, zbz, zcc]
        rfl
       exact zdk (by simp only [putAll, Act.put, List.setIfInBounds_toArray, List.set_cons_zero, List.set_cons_succ]) (hCont (v154, v157) _ ⟨hHeld, (by (with_reducible repeat (first | apply Kd.zbb | apply Kd.zba | apply Kd.zbf)); exact Kd.zbh HO155.out (fun _ hk => hk.2)), (by (with_reducible repeat (first | apply Kd.zbb | apply Kd.zba | apply Kd.zbf)); exact Kd.zbh HO158.out (fun _ hk => hk.2)), (by (with_reducible repeat (first | refine zag ?_ _ | refine zai ?_ | refine zaf ?_ _)); exact BK152.out), (by repeat (first | (with_reducible first | exact HB.out | apply zad | apply zac | apply zae | refine zah ?_ GE152.out) | exact HB.out))⟩)
      ·skip
       refine Kd.zdq (Kd.int .u8) _ 5 ?hg (N := 13) ?hd (xs := ([(a0_1) % 256] : List Int)) (inner := [.int .u8 ((a0_1) % 256)]) (ok := fun _ => True) (okp := fun _ => True) ?hr ?hp (fun _ hk => hk) trivial (Below.refl _ _) (Nat.le_refl _) (by simp) ?_; (case hd => rfl); (case hg => rfl); (case hr => first | (go_simp; done) | (go_simp; rfl)); (case hp => exact (Reps.one (show Kd.M (Kd.int .u8) _ _ _ ((a0_1) % 256) [.int .u8 ((a0_1) % 256)] from rfl) (Reps.none _ _)))
       intro v157 w34 ho35 hb hg_ hnew_
       clear hg_ hnew_
       (first | rw [← Ny156.out] at ho35 | (simp only [Int.reduceToNat] at ho35; rw [← Ny156.out] at ho35))
       have n0_ := Aside0.mk (Kd.zdn ho35 (zaz (by repeat (first | (with_reducible first | exact HB.out | apply zad | apply zac | apply zae | refine zah ?_ GE152.out) | exact HB.out))))
       have n1_ := Aside0.mk (zbn (g := gb152) (o := .cells #[.int .i64 a0_0, .int .i64 a0_1, .int .i64 a0_2, .string a0_3, .string a0_4, .string a0_5, .string a0_6, .string a0_7, .string a0_8, .slice A0_9 l0_9.length c0_9, .int .i64 a0_10, .int .i64 a0_11, .int .i64 a0_12, .slice A0_13 l0_13.length c0_13] 38 (0, 0)) (by (with_reducible repeat (first | refine zag ?_ _ | refine zai ?_ | refine zaf ?_ _)); exact BK152.out) hb)
       have n2_ := Aside0.mk (zbl (by repeat (first | (with_reducible first | exact HB.out | apply zad | apply zac | apply zae | refine zah ?_ GE152.out) | exact HB.out)) hb)
       clear BK152
       clear HB
       have HO158 := n0_
       have BK152 := n1_
       have HB := n2_
       clear n0_ n1_ n2_
       clear hb ho35
       refine hK.out _ _ ⟨(zaa BK152.out 0).trans rfl, (zaa BK152.out 1).trans rfl, (zaa BK152.out 2).trans rfl, (zaa BK152.out 3).trans rfl, (zaa BK152.out 4).trans rfl, (zaa BK152.out 5).trans rfl, (zaa BK152.out 6).trans rfl, (zaa BK152.out 7).trans rfl, (zaa BK152.out 8).trans rfl, (zaa BK152.out 9).trans rfl, (zaa BK152.out 10).trans rfl, (zaa BK152.out 11).trans rfl, (zaa BK152.out 12).trans rfl, (zaa BK152.out 13).trans rfl⟩ (fun hHeld => ?_)
       clear hK K
       refine zdk (a' := ?_) ?_ ?_
       rotate_left
       ·show Act.put _ (some 13) _ = _
        simp only [Act.put, List.setIfInBounds_toArray, List.set_cons_zero, List.set_cons_succ, zbz, zcc]
        rfl
       refine one_ (i := 2) (N := some 9) #[true, true, true, true, true, true, true, false, false] rfl rfl (zei HT_.out (by kernel_rfl)) (by decide) (fun K hK => ?_)
       refine zhj Try.func48 (by kernel_rfl) rfl #[.slice none 0 0, .int .i64 a0_0] (by rfl) rfl rfl (by (try simp only [List.map_toArray, List.map_cons, List.map_nil]); first | done | rfl | (simp only [List.length_drop, List.length_take]; rfl)) ?_
       refine (zao.calls k (fun k_ => some k_ = (.slice none 0 0 : Value).ownBlock) (.slice none 0 0) ([] : List Int) a0_0 t153 w _ ?side1 ?side2 A2.out).mono ?_
       (case side1 => repeat (first | (with_reducible first | exact HB.out | apply zad | apply zac | apply zae | refine zah ?_ GE152.out) | exact HB.out))
       (case side2 => exact Kd.zdf _ _ _ _ _)
       rintro e w36 ⟨v154, rfl, ho0, hb, hkp⟩
       refine ⟨_, rfl, ?_⟩
       have n0_ := Aside0.mk (zbr (by (with_reducible repeat (first | refine zag ?_ _ | refine zai ?_ | refine zaf ?_ _)); exact BK152.out) hkp (fun hs_ => (fun e_ => by simp [Value.ownBlock] at e_) hs_))
       have n1_ := Aside0.mk (Kd.zbh (ok' := fun k_ => some k_ ≠ (v154 : Value).ownBlock) (Kd.zgg (HO158.out) hkp (fun k_ hk_ hs_ => (fun e_ => by simp [Value.ownBlock] at e_) hs_)) (fun k_ hk_ => fun e_ => Or.elim (ho0.1 k_ e_.symm) (fun hs_ => hk_.2.1 hs_) (fun hn_ => Nat.not_le.2 hk_.2.2 hn_)))
       have n2_ := Aside0.mk (Kd.zbh (ok' := fun k_ => some k_ ≠ (v157 : Value).ownBlock) ho0 (fun k_ hk_ => Or.elim hk_ (fun hs_ => absurd hs_ (by simp [Value.ownBlock])) (fun hn_ => (Kd.fresh' (Kd.R_lt (by (with_reducible repeat (first | apply Kd.zbb | apply Kd.zba | apply Kd.zbf)); exact HO158.out)) k_ hn_))))
       have n3_ := Aside0.mk (hb)
       clear BK152
       clear HO158
       clear HB
       have BK152 := n0_
       have HO158 := n1_
       have HO155 := n2_
       have HB := n3_
       clear n0_ n1_ n2_ n3_
       (try clear hb)
       (try clear hkp)
       (try clear ho0)
       refine hK.out _ _ ⟨(zaa BK152.out 0).trans rfl, (zaa BK152.out 1).trans rfl, (zaa BK152.out 2).trans rfl, (zaa BK152.out 3).trans rfl, (zaa BK152.out 4).trans rfl, (zaa BK152.out 5).trans rfl, (zaa BK152.out 6).trans rfl, (zaa BK152.out 7).trans rfl, (zaa BK152.out 8).trans rfl, (zaa BK152.out 9).trans rfl, (zaa BK152.out 10).trans rfl, (zaa BK152.out 11).trans rfl, (zaa BK152.out 12).trans rfl, (zaa BK152.out 13).trans rfl⟩ (fun hHeld => ?_)
       clear hK K
       refine zdk (a' := ?_) ?_ ?_
       rotate_left
       ·show Act.put _ (some 9) _ = _
        simp only [Act.put, List.setIfInBounds_toArray, List.set_cons_zero, List.set_cons_succ, zbz, zcc]
        rfl
       exact zdk (by simp only [putAll, Act.put, List.setIfInBounds_toArray, List.set_cons_zero, List.set_cons_succ]) (hCont (v154, v157) _ ⟨hHeld, (by (with_reducible repeat (first | apply Kd.zbb | apply Kd.zba | apply Kd.zbf)); exact HO155.out), (by (with_reducible repeat (first | apply Kd.zbb | apply Kd.zba | apply Kd.zbf)); exact HO158.out), (by (with_reducible repeat (first | refine zag ?_ _ | refine zai ?_ | refine zaf ?_ _)); exact BK152.out), (by repeat (first | (with_reducible first | exact HB.out | apply zad | apply zac | apply zae | refine zah ?_ GE152.out) | exact HB.out))⟩)
     rintro ⟨v154, v157⟩ w37 ⟨hS_, h0_, h1_, h2_, h3_⟩
     have n0_ : Aside0 (Kd.R (Kd.int .u8) 5 w37 w.heap.size (fun k_ => some k_ ≠ (v157 : Value).ownBlock) v154 t153) := ⟨h0_⟩
     have n1_ : Aside0 (Kd.R (Kd.int .u8) 5 w37 w.heap.size (fun k_ => some k_ ≠ (v154 : Value).ownBlock) v157 y156) := ⟨h1_⟩
     have n2_ : Aside0 (w37.heap[gb152]? = some (.cells #[.int .i64 a0_0, .int .i64 a0_1, .int .i64 a0_2, .string a0_3, .string a0_4, .string a0_5, .string a0_6, .string a0_7, .string a0_8, .slice A0_9 l0_9.length c0_9, .int .i64 a0_10, .int .i64 a0_11, .int .i64 a0_12, .slice A0_13 l0_13.length c0_13] 38 (0, 0))) := ⟨h2_⟩
     have n3_ : Aside0 (Below w.heap.size w w37) := ⟨h3_⟩
     clear BK152
     clear HB
     clear h0_ h1_ h2_ h3_
     have HO155 := n0_
     have HO158 := n1_
     have BK152 := n2_
     have HB := n3_
     clear n0_ n1_ n2_ n3_
     have hHeld : w37.cell? ⟨gb152, 0, none⟩ = some (.int .i64 a0_0) ∧ w37.cell? ⟨gb152, 1, none⟩ = some (.int .i64 a0_1) ∧ w37.cell? ⟨gb152, 2, none⟩ = some (.int .i64 a0_2) ∧ w37.cell? ⟨gb152, 3, none⟩ = some (.string a0_3) ∧ w37.cell? ⟨gb152, 4, none⟩ = some (.string a0_4) ∧ w37.cell? ⟨gb152, 5, none⟩ = some (.string a0_5) ∧ w37.cell? ⟨gb152, 6, none⟩ = some (.string a0_6) ∧ w37.cell? ⟨gb152, 7, none⟩ = some (.string a0_7) ∧ w37.cell? ⟨gb152, 8, none⟩ = some (.string a0_8) ∧ w37.cell? ⟨gb152, 9, none⟩ = some (.slice A0_9 l0_9.length c0_9) ∧ w37.cell? ⟨gb152, 10, none⟩ = some (.int .i64 a0_10) ∧ w37.cell? ⟨gb152, 11, none⟩ = some (.int .i64 a0_11) ∧ w37.cell? ⟨gb152, 12, none⟩ = some (.int .i64 a0_12) ∧ w37.cell? ⟨gb152, 13, none⟩ = some (.slice A0_13 l0_13.length c0_13) := hS_
     obtain ⟨Ao39, co39, eo39⟩ := Kd.zbu HO158.out
     (first | subst eo39 | (injection eo39 with f1_ f2_ f3_; have f4_ := f1_.symm; have f5_ := f3_.symm; clear f1_ f2_ f3_; subst f4_; subst f5_))
     refine zdk (a' := ?_) ?_ ?_
     rotate_left
     ·simp only [putAll, Act.put, List.setIfInBounds_toArray, List.set_cons_zero, List.set_cons_succ]
      rfl
     refine one_ (i := 7) (N := some 14) #[true, true, true, true, true, true, true, true, false] rfl rfl (zei HT_.out (by kernel_rfl)) (by decide) (fun K hK => ?_)
     refine Kd.zda (Kd.int .u8) (w0 := w) w.heap.size (by rfl) (.tmp 9) (.tmp 13) 27 5 (.int .u8 0) 1 rfl Try.underlying27 info5 rfl (by decide) (by omega) v154 t153 y156 _ _ _ (fun k_ => some k_ ≠ (.slice Ao39 y156.length co39 : Value).ownBlock) (fun _ => False) rfl rfl ?aO ?aR (fun _ _ h => h) (fun _ h => h.elim) ?aF ?aB ?aS ?aL ?_
     (case aR => repeat (first | exact (Kd.zed HO158.out).2.2 | (with_reducible refine Kd.zev ?_ _) | (with_reducible refine Kd.zeu ?_ _) | (with_reducible refine Kd.zfw ?_)))
     (case aB => exact (by repeat (first | (with_reducible first | exact HB.out | apply zad | apply zac | apply zae | refine zah ?_ GE152.out) | exact HB.out)))
     (case aF => exact (fun k_ hk => Kd.fresh' (Kd.R_lt (by (with_reducible repeat (first | apply Kd.zbb | apply Kd.zba | apply Kd.zbf)); exact HO158.out)) k_ hk))
     (case aO => exact (by (with_reducible repeat (first | apply Kd.zbb | apply Kd.zba | apply Kd.zbf)); exact HO155.out))
     (case aS => exact (zaz (by repeat (first | (with_reducible first | exact HB.out | apply zad | apply zac | apply zae | refine zah ?_ GE152.out) | exact HB.out))))
     (case aL => have := LMc3.out; omega)
     intro v160 w38 ho hb hg hat
     rw [← Ny159.out] at ho
     have n0_ := Aside0.mk (zbm (g := gb152) (o := .cells #[.int .i64 a0_0, .int .i64 a0_1, .int .i64 a0_2, .string a0_3, .string a0_4, .string a0_5, .string a0_6, .string a0_7, .string a0_8, .slice A0_9 l0_9.length c0_9, .int .i64 a0_10, .int .i64 a0_11, .int .i64 a0_12, .slice A0_13 l0_13.length c0_13] 38 (0, 0)) (by (with_reducible repeat (first | refine zag ?_ _ | refine zai ?_ | refine zaf ?_ _)); exact BK152.out) hg (Kd.R_ne HO155.out BK152.out (by decide)))
     have n1_ := Aside0.mk (Kd.zfu (ok := (fun _ => True)) (by (with_reducible repeat (first | apply Kd.zbb | apply Kd.zba | apply Kd.zbf)); exact Kd.zbh HO158.out (fun _ hk => ⟨trivial, hk⟩)) hg hat)
     have n2_ := Aside0.mk (hb)
     have n3_ := Aside0.mk (ho)
     clear BK152
     clear HO158
     clear HB
     clear HO155
     have BK152 := n0_
     have HO158 := n1_
     have HB := n2_
     have HO161 := n3_
     clear n0_ n1_ n2_ n3_
     clear ho hb hg hat
     refine hK.out _ _ ⟨(zaa BK152.out 0).trans rfl, (zaa BK152.out 1).trans rfl, (zaa BK152.out 2).trans rfl, (zaa BK152.out 3).trans rfl, (zaa BK152.out 4).trans rfl, (zaa BK152.out 5).trans rfl, (zaa BK152.out 6).trans rfl, (zaa BK152.out 7).trans rfl, (zaa BK152.out 8).trans rfl, (zaa BK152.out 9).trans rfl, (zaa BK152.out 10).trans rfl, (zaa BK152.out 11).trans rfl, (zaa BK152.out 12).trans rfl, (zaa BK152.out 13).trans rfl⟩ (fun hHeld => ?_)
     clear hK K
     refine zdk (a' := ?_) ?_ ?_
     rotate_left
     ·show Act.put _ (some 14) _ = _
      simp only [Act.put, List.setIfInBounds_toArray, List.set_cons_zero, List.set_cons_succ, zbz, zcc]
      rfl
     refine zde (i := 8) (N := some 4) (v := ?_) (a' := ?_) #[true, true, true, true, true, true, true, true, true] rfl rfl (zcn HT_.out (by kernel_rfl)) (fun _ _ _ h => h) (Or.inl ⟨by rfl, ?_⟩) ?_ ?_
     rotate_left
     ·intro w'
      go_simp
      with_reducible rfl
     rotate_left
     ·simp only [Act.put, List.setIfInBounds_toArray, List.set_cons_zero, List.set_cons_succ, zbz, zcc]
      rfl
     refine zis (zgd HT_.out (by kernel_rfl)) ?_
     have hcz40_0 : w38.cell? ⟨gb152, 0, none⟩ = some (.int .i64 a0_0) := (zaa BK152.out 0).trans rfl
     have hcz40_1 : w38.cell? ⟨gb152, 1, none⟩ = some (.int .i64 a0_1) := (zaa BK152.out 1).trans rfl
     have hcz40_2 : w38.cell? ⟨gb152, 2, none⟩ = some (.int .i64 a0_2) := (zaa BK152.out 2).trans rfl
     have hcz40_3 : w38.cell? ⟨gb152, 3, none⟩ = some (.string a0_3) := (zaa BK152.out 3).trans rfl
     have hcz40_4 : w38.cell? ⟨gb152, 4, none⟩ = some (.string a0_4) := (zaa BK152.out 4).trans rfl
     have hcz40_5 : w38.cell? ⟨gb152, 5, none⟩ = some (.string a0_5) := (zaa BK152.out 5).trans rfl
     have hcz40_6 : w38.cell? ⟨gb152, 6, none⟩ = some (.string a0_6) := (zaa BK152.out 6).trans rfl
     have hcz40_7 : w38.cell? ⟨gb152, 7, none⟩ = some (.string a0_7) := (zaa BK152.out 7).trans rfl
     have hcz40_8 : w38.cell? ⟨gb152, 8, none⟩ = some (.string a0_8) := (zaa BK152.out 8).trans rfl
     have hcz40_9 : w38.cell? ⟨gb152, 9, none⟩ = some (.slice A0_9 l0_9.length c0_9) := (zaa BK152.out 9).trans rfl
     have hcz40_10 : w38.cell? ⟨gb152, 10, none⟩ = some (.int .i64 a0_10) := (zaa BK152.out 10).trans rfl
     have hcz40_11 : w38.cell? ⟨gb152, 11, none⟩ = some (.int .i64 a0_11) := (zaa BK152.out 11).trans rfl
     have hcz40_12 : w38.cell? ⟨gb152, 12, none⟩ = some (.int .i64 a0_12) := (zaa BK152.out 12).trans rfl
     have hcz40_13 : w38.cell? ⟨gb152, 13, none⟩ = some (.slice A0_13 l0_13.length c0_13) := (zaa BK152.out 13).trans rfl
     have hfz40_0 := zab BK152.out 0
     have hfz40_1 := zab BK152.out 1
     have hfz40_2 := zab BK152.out 2
     have hfz40_3 := zab BK152.out 3
     have hfz40_4 := zab BK152.out 4
     have hfz40_5 := zab BK152.out 5
     have hfz40_6 := zab BK152.out 6
     have hfz40_7 := zab BK152.out 7
     have hfz40_8 := zab BK152.out 8
     have hfz40_9 := zab BK152.out 9
     have hfz40_10 := zab BK152.out 10
     have hfz40_11 := zab BK152.out 11
     have hfz40_12 := zab BK152.out 12
     have hfz40_13 := zab BK152.out 13
     try go_wp2
     have n0_ := Aside0.mk (Kd.zbf HO158.out)
     have n1_ := Aside0.mk (Kd.zbf HO161.out)
     have n2_ := Aside0.mk (zai BK152.out)
     have n3_ := Aside0.mk (zae HB.out)
     clear HO158
     clear HO161
     clear BK152
     clear HB
     have HO158 := n0_
     have HO161 := n1_
     have BK152 := n2_
     have HB := n3_
     clear n0_ n1_ n2_ n3_
     refine zho (n := 11) (S := fun w' => w'.cell? ⟨gb152, 0, none⟩ = some (.int .i64 a0_0) ∧ w'.cell? ⟨gb152, 1, none⟩ = some (.int .i64 a0_1) ∧ w'.cell? ⟨gb152, 2, none⟩ = some (.int .i64 a0_2) ∧ w'.cell? ⟨gb152, 3, none⟩ = some (.string a0_3) ∧ w'.cell? ⟨gb152, 4, none⟩ = some (.string a0_4) ∧ w'.cell? ⟨gb152, 5, none⟩ = some (.string a0_5) ∧ w'.cell? ⟨gb152, 6, none⟩ = some (.string a0_6) ∧ w'.cell? ⟨gb152, 7, none⟩ = some (.string a0_7) ∧ w'.cell? ⟨gb152, 8, none⟩ = some (.string a0_8) ∧ w'.cell? ⟨gb152, 9, none⟩ = some (.slice A0_9 l0_9.length c0_9) ∧ w'.cell? ⟨gb152, 10, none⟩ = some (.int .i64 a0_10) ∧ w'.cell? ⟨gb152, 11, none⟩ = some (.int .i64 a0_11) ∧ w'.cell? ⟨gb152, 12, none⟩ = some (.int .i64 a0_12) ∧ w'.cell? ⟨gb152, 13, none⟩ = some (.slice A0_13 l0_13.length c0_13)) (ds := []) #[false, false, false, false, false, false, false, false, false, false, false] (by kernel_rfl) rfl rfl ⟨(zaa BK152.out 0).trans rfl, (zaa BK152.out 1).trans rfl, (zaa BK152.out 2).trans rfl, (zaa BK152.out 3).trans rfl, (zaa BK152.out 4).trans rfl, (zaa BK152.out 5).trans rfl, (zaa BK152.out 6).trans rfl, (zaa BK152.out 7).trans rfl, (zaa BK152.out 8).trans rfl, (zaa BK152.out 9).trans rfl, (zaa BK152.out 10).trans rfl, (zaa BK152.out 11).trans rfl, (zaa BK152.out 12).trans rfl, (zaa BK152.out 13).trans rfl⟩ (fun hHeld => ?_); refine zet zaq.tab6 zaq.bits6 (fun HT_ HW_ => ?_)
     generalize w38.drew = w41 at HO158 HO161 BK152 HB hHeld ⊢
     refine zde (i := 0) (N := some 31) (v := ?_) (a' := ?_) #[true, false, false, false, false, false, false, false, false, false, false] rfl rfl (zcn HT_.out (by kernel_rfl)) (fun _ _ _ h => h) (Or.inl ⟨by rfl, ?_⟩) ?_ ?_
     rotate_left
     ·intro w'
      go_simp
      with_reducible rfl
     rotate_left
     ·simp only [Act.put, List.setIfInBounds_toArray, List.set_cons_zero, List.set_cons_succ, zbz, zcc]
      rfl
     refine zde (i := 1) (N := some 32) (v := ?_) (a' := ?_) #[true, true, false, false, false, false, false, false, false, false, false] rfl rfl (zcn HT_.out (by kernel_rfl)) (fun _ _ _ h => h) (Or.inl ⟨by rfl, ?_⟩) ?_ ?_
     rotate_left
     ·intro w'
      go_simp
      with_reducible rfl
     rotate_left
     ·simp only [Act.put, List.setIfInBounds_toArray, List.set_cons_zero, List.set_cons_succ, zbz, zcc]
      rfl
     refine zde (i := 5) (N := some 36) (v := ?_) (a' := ?_) #[true, true, false, false, false, true, false, false, false, false, false] rfl rfl (zcn HT_.out (by kernel_rfl)) (fun _ _ _ h => h) (Or.inl ⟨by rfl, ?_⟩) ?_ ?_
     rotate_left
     ·intro w'
      go_simp
      with_reducible rfl
     rotate_left
     ·simp only [Act.put, List.setIfInBounds_toArray, List.set_cons_zero, List.set_cons_succ, zbz, zcc]
      rfl
     refine zgv (i := 2) (N := some 33) (v := ?_) (a' := ?_) #[true, true, true, false, false, true, false, false, false, false, false] rfl rfl (zdo HT_.out HW_.out (by kernel_rfl)) (fun _ _ _ h => h) (Or.inl ⟨by rfl, ?_⟩) hHeld ?_ ?_
     rotate_left
     ·rintro w' ⟨s0, s1, s2, s3, s4, s5, s6, s7, s8, s9, s10, s11, s12, s13⟩
      go_simp
      with_reducible rfl
     rotate_left
     ·simp only [Act.put, List.setIfInBounds_toArray, List.set_cons_zero, List.set_cons_succ, zbz, zcc]
      rfl
     refine zgv (i := 6) (N := some 37) (v := ?_) (a' := ?_) #[true, true, true, false, false, true, true, false, false, false, false] rfl rfl (zdo HT_.out HW_.out (by kernel_rfl)) (fun _ _ _ h => h) (Or.inl ⟨by rfl, ?_⟩) hHeld ?_ ?_
     rotate_left
     ·rintro w' ⟨s0, s1, s2, s3, s4, s5, s6, s7, s8, s9, s10, s11, s12, s13⟩
      go_simp
      with_reducible rfl
     rotate_left
     ·simp only [Act.put, List.setIfInBounds_toArray, List.set_cons_zero, List.set_cons_succ, zbz, zcc]
      rfl
     refine zde (i := 7) (N := some 38) (v := ?_) (a' := ?_) #[true, true, true, false, false, true, true, true, false, false, false] rfl rfl (zcn HT_.out (by kernel_rfl)) (fun _ _ _ h => h) (Or.inl ⟨by rfl, ?_⟩) ?_ ?_
     rotate_left
     ·intro w'
      go_simp
      with_reducible rfl
     rotate_left
     ·simp only [Act.put, List.setIfInBounds_toArray, List.set_cons_zero, List.set_cons_succ, zbz, zcc]
      rfl
     refine zde (i := 8) (N := some 39) (v := ?_) (a' := ?_) #[true, true, true, false, false, true, true, true, true, false, false] rfl rfl (zcn HT_.out (by kernel_rfl)) (fun _ _ _ h => h) (Or.inl ⟨by rfl, ?_⟩) ?_ ?_
     rotate_left
     ·intro w'
      go_simp
      with_reducible rfl
     rotate_left
     ·simp only [Act.put, List.setIfInBounds_toArray, List.set_cons_zero, List.set_cons_succ, zbz, zcc]
      rfl
     refine one_ (i := 3) (N := some 34) #[true, true, true, true, false, true, true, true, true, false, false] rfl rfl (zei HT_.out (by kernel_rfl)) (by decide) (fun K hK => ?_)
     refine zhj Try.func23 (by kernel_rfl) rfl #[.agg #[.int .i64 a0_2, .string a0_3, .string a0_4, .string a0_5, .string a0_6, .string a0_7, .string a0_8, .slice A0_9 l0_9.length c0_9, .int .i64 a0_10, .int .i64 a0_11, .int .i64 a0_12]] (by rfl) rfl rfl (by (try simp only [List.map_toArray, List.map_cons, List.map_nil]); first | done | rfl | (simp only [List.length_drop, List.length_take]; rfl)) ?_
     with_reducible refine (zbc.calls k a0_2 a0_3 a0_4 a0_5 a0_6 a0_7 a0_8 _ _ l0_9 a0_10 a0_11 a0_12 t163 _ ?side1 ?side2 A30.out).mono ?_
     (case side1 => repeat (first | exact (Kd.zci HR0_9.out HB.out) | (with_reducible refine Kd.zev ?_ _) | (with_reducible refine Kd.zeu ?_ _) | (with_reducible refine Kd.zfw ?_)))
     (case side2 => exact HC0_9.out)
     rintro e w42 ⟨v164, rfl, ho0, hb⟩
     refine ⟨_, rfl, ?_⟩
     have n0_ := Aside0.mk (Kd.zez (by (with_reducible repeat (first | apply Kd.zbb | apply Kd.zba | apply Kd.zbf)); exact HO158.out) (Kd.zhg ho0) hb)
     have n1_ := Aside0.mk (Kd.zez (by (with_reducible repeat (first | apply Kd.zbb | apply Kd.zba | apply Kd.zbf)); exact HO161.out) (Kd.zhg ho0) hb)
     have n2_ := Aside0.mk (Kd.zdn (Kd.zhf (Kd.zhf ho0 (Kd.R_lt (by (with_reducible repeat (first | apply Kd.zbb | apply Kd.zba | apply Kd.zbf)); exact HO158.out))) (Kd.R_lt (by (with_reducible repeat (first | apply Kd.zbb | apply Kd.zba | apply Kd.zbf)); exact HO161.out))) (zaz (by repeat (first | (with_reducible first | exact HB.out | apply zad | apply zac | apply zae | refine zah ?_ GE152.out) | exact HB.out))))
     have n3_ := Aside0.mk (zbn (g := gb152) (o := .cells #[.int .i64 a0_0, .int .i64 a0_1, .int .i64 a0_2, .string a0_3, .string a0_4, .string a0_5, .string a0_6, .string a0_7, .string a0_8, .slice A0_9 l0_9.length c0_9, .int .i64 a0_10, .int .i64 a0_11, .int .i64 a0_12, .slice A0_13 l0_13.length c0_13] 38 (0, 0)) (by (with_reducible repeat (first | refine zag ?_ _ | refine zai ?_ | refine zaf ?_ _)); exact BK152.out) hb)
     have n4_ := Aside0.mk (zbl (by repeat (first | (with_reducible first | exact HB.out | apply zad | apply zac | apply zae | refine zah ?_ GE152.out) | exact HB.out)) hb)
     clear HO158
     clear HO161
     clear BK152
     clear HB
     have HO158 := n0_
     have HO161 := n1_
     have HO165 := n2_
     have BK152 := n3_
     have HB := n4_
     clear n0_ n1_ n2_ n3_ n4_
     (try clear hb)
     (try clear hb2)
     (try clear hk)
     (try clear hi)
     (try clear ho0)
     obtain ⟨Ao44, co44, eo44⟩ := Kd.zbu HO165.out
     (first | subst eo44 | (injection eo44 with f1_ f2_ f3_; have f4_ := f1_.symm; have f5_ := f3_.symm; clear f1_ f2_ f3_; subst f4_; subst f5_))
     refine hK.out _ _ ⟨(zaa BK152.out 0).trans rfl, (zaa BK152.out 1).trans rfl, (zaa BK152.out 2).trans rfl, (zaa BK152.out 3).trans rfl, (zaa BK152.out 4).trans rfl, (zaa BK152.out 5).trans rfl, (zaa BK152.out 6).trans rfl, (zaa BK152.out 7).trans rfl, (zaa BK152.out 8).trans rfl, (zaa BK152.out 9).trans rfl, (zaa BK152.out 10).trans rfl, (zaa BK152.out 11).trans rfl, (zaa BK152.out 12).trans rfl, (zaa BK152.out 13).trans rfl⟩ (fun hHeld => ?_)
     clear hK K
     refine zdk (a' := ?_) ?_ ?_
     rotate_left
     ·show Act.put _ (some 34) _ = _
      simp only [Act.put, List.setIfInBounds_toArray, List.set_cons_zero, List.set_cons_succ, zbz, zcc]
      rfl
     refine one_ (i := 4) (N := some 35) #[true, true, true, true, true, true, true, true, true, false, false] rfl rfl (zei HT_.out (by kernel_rfl)) (by decide) (fun K hK => ?_)
     refine Kd.zda (Kd.int .u8) (w0 := w) w.heap.size (by rfl) (.tmp 31) (.tmp 34) 27 5 (.int .u8 0) 1 rfl Try.underlying27 info5 rfl (by decide) (by omega) v160 y159 t163 _ _ _ (fun k_ => some k_ ≠ (.slice Ao39 y156.length co39 : Value).ownBlock ∧ some k_ ≠ (.slice Ao44 t163.length co44 : Value).ownBlock) (fun _ => False) rfl rfl ?aO ?aR (fun _ _ h => h) (fun _ h => h.elim) ?aF ?aB ?aS ?aL ?_
     (case aR => repeat (first | exact (Kd.zed HO165.out).2.2 | (with_reducible refine Kd.zev ?_ _) | (with_reducible refine Kd.zeu ?_ _) | (with_reducible refine Kd.zfw ?_)))
     (case aB => exact (by repeat (first | (with_reducible first | exact HB.out | apply zad | apply zac | apply zae | refine zah ?_ GE152.out) | exact HB.out)))
     (case aF => exact (fun k_ hk => ⟨Kd.fresh' (Kd.R_lt (by (with_reducible repeat (first | apply Kd.zbb | apply Kd.zba | apply Kd.zbf)); exact HO158.out)) k_ hk, Kd.fresh' (Kd.R_lt (by (with_reducible repeat (first | apply Kd.zbb | apply Kd.zba | apply Kd.zbf)); exact HO165.out)) k_ hk⟩))
     (case aO => exact (by (with_reducible repeat (first | apply Kd.zbb | apply Kd.zba | apply Kd.zbf)); exact HO161.out))
     (case aS => exact (zaz (by repeat (first | (with_reducible first | exact HB.out | apply zad | apply zac | apply zae | refine zah ?_ GE152.out) | exact HB.out))))
     (case aL => have := LMc31.out; omega)
     intro v167 w43 ho hb hg hat
     rw [← Ny166.out] at ho
     have n0_ := Aside0.mk (zbm (g := gb152) (o := .cells #[.int .i64 a0_0, .int .i64 a0_1, .int .i64 a0_2, .string a0_3, .string a0_4, .string a0_5, .string a0_6, .string a0_7, .string a0_8, .slice A0_9 l0_9.length c0_9, .int .i64 a0_10, .int .i64 a0_11, .int .i64 a0_12, .slice A0_13 l0_13.length c0_13] 38 (0, 0)) (by (with_reducible repeat (first | refine zag ?_ _ | refine zai ?_ | refine zaf ?_ _)); exact BK152.out) hg (Kd.R_ne HO161.out BK152.out (by decide)))
     have n1_ := Aside0.mk (Kd.zfu (ok := (fun k_ => some k_ ≠ (.slice Ao44 t163.length co44 : Value).ownBlock)) (by (with_reducible repeat (first | apply Kd.zbb | apply Kd.zba | apply Kd.zbf)); exact Kd.zbh HO158.out (fun _ hk => ⟨hk.2, hk.1.2⟩)) hg hat)
     have n2_ := Aside0.mk (Kd.zfu (ok := (fun k_ => some k_ ≠ (.slice Ao39 y156.length co39 : Value).ownBlock)) (by (with_reducible repeat (first | apply Kd.zbb | apply Kd.zba | apply Kd.zbf)); exact Kd.zbh HO165.out (fun _ hk => ⟨hk.1.2, hk.2⟩)) hg hat)
     have n3_ := Aside0.mk (hb)
     have n4_ := Aside0.mk (ho)
     clear BK152
     clear HO158
     clear HO165
     clear HB
     clear HO161
     have BK152 := n0_
     have HO158 := n1_
     have HO165 := n2_
     have HB := n3_
     have HO168 := n4_
     clear n0_ n1_ n2_ n3_ n4_
     clear ho hb hg hat
     refine hK.out _ _ ⟨(zaa BK152.out 0).trans rfl, (zaa BK152.out 1).trans rfl, (zaa BK152.out 2).trans rfl, (zaa BK152.out 3).trans rfl, (zaa BK152.out 4).trans rfl, (zaa BK152.out 5).trans rfl, (zaa BK152.out 6).trans rfl, (zaa BK152.out 7).trans rfl, (zaa BK152.out 8).trans rfl, (zaa BK152.out 9).trans rfl, (zaa BK152.out 10).trans rfl, (zaa BK152.out 11).trans rfl, (zaa BK152.out 12).trans rfl, (zaa BK152.out 13).trans rfl⟩ (fun hHeld => ?_)
     clear hK K
     refine zdk (a' := ?_) ?_ ?_
     rotate_left
     ·show Act.put _ (some 35) _ = _
      simp only [Act.put, List.setIfInBounds_toArray, List.set_cons_zero, List.set_cons_succ, zbz, zcc]
      rfl
     refine zde (i := 9) (N := some 2) (v := ?_) (a' := ?_) #[true, true, true, true, true, true, true, true, true, true, false] rfl rfl (zcn HT_.out (by kernel_rfl)) (fun _ _ _ h => h) (Or.inl ⟨by rfl, ?_⟩) ?_ ?_
     rotate_left
     ·intro w'
      go_simp
      with_reducible rfl
     rotate_left
     ·simp only [Act.put, List.setIfInBounds_toArray, List.set_cons_zero, List.set_cons_succ, zbz, zcc]
      rfl
     refine zde (i := 10) (N := some 3) (v := ?_) (a' := ?_) #[true, true, true, true, true, true, true, true, true, true, true] rfl rfl (zcn HT_.out (by kernel_rfl)) (fun _ _ _ h => h) (Or.inl ⟨by rfl, ?_⟩) ?_ ?_
     rotate_left
     ·intro w'
      go_simp
      with_reducible rfl
     rotate_left
     ·simp only [Act.put, List.setIfInBounds_toArray, List.set_cons_zero, List.set_cons_succ, zbz, zcc]
      rfl
     refine zis (zgd HT_.out (by kernel_rfl)) ?_
     try go_wp2
     go_ret2
     exact ⟨_, by first | rfl | (simp [zay, zax] <;> rfl) | (simp [*, zay, zax] <;> rfl), by (with_reducible repeat (first | apply Kd.zbb | apply Kd.zba | apply Kd.zbf)); exact Kd.zbh HO168.out (fun _ hk => trivial), by repeat (first | (with_reducible first | exact HB.out | apply zad | apply zac | apply zae | refine zah ?_ GE152.out) | exact HB.out)⟩
    ·rw [if_neg c31] at H
     exact absurd H (by simp)
   ·rw [if_neg c29] at H
    have c29b0 : (a0_1 == 1) = false := beq_eq_false_iff_ne.mpr c29
    have c29b1 : (a0_1 != 1) = true := bne_iff_ne.mpr c29
    by_cases c45 : a0_1 = 2
    ·rw [if_pos c45] at H
     have c45b0 : (a0_1 == 2) = true := beq_iff_eq.mpr c45
     have c45b1 : (a0_1 != 2) = false := bne_eq_false_iff_eq.mpr c45
     clear c45
     replace H := Option.bind_eq_some_iff.mp H
     obtain ⟨t169, A460, H⟩ := H
     replace H : (zaq.l0 k t169 l0_13 (l0_13.length : Int) 0 a0_0 a0_1 a0_2 a0_3 a0_4 a0_5 a0_6 a0_7 a0_8 l0_9 a0_10 a0_11 a0_12 l0_13) = some (r1, r2) := H
     have A46 := Aside0.mk A460
     clear A460
     have H' := Aside0.mk H
     clear H
     go_enter Try.func24, Try.ntmps24
     try go_wp2_with (first | ((with_reducible refine zcr (N := 1) rfl ?_); (try (refine zcv (by rfl) ?_; dsimp only)); refine zcm ?hg (N := 1) ?hd (cs := #[.int .i64 a0_0, .int .i64 a0_1, .int .i64 a0_2, .string a0_3, .string a0_4, .string a0_5, .string a0_6, .string a0_7, .string a0_8, .slice A0_9 l0_9.length c0_9, .int .i64 a0_10, .int .i64 a0_11, .int .i64 a0_12, .slice A0_13 l0_13.length c0_13]) (t := 38) ?hr ?_; (case hd => rfl); (case hg => rfl); (case hr => first | (go_simp; done) | (go_simp; rfl)); intro gb152 hg w47 hbox hb; have n0_ := Aside0.mk (zbl (by repeat (first | (with_reducible first | exact HB.out | apply zad | apply zac | apply zae) | exact HB.out)) hb); have n1_ := Aside0.mk (hbox); have n2_ := Aside0.mk ((by rw [hg]; exact (zaz (by repeat (first | (with_reducible first | exact HB.out | apply zad | apply zac | apply zae) | exact HB.out))) : w.heap.size ≤ gb152)); have n3_ := Aside0.mk ((by rw [hg]; exact (zaz (by repeat (first | (with_reducible first | exact HB.out | apply zad | apply zac | apply zae) | exact HB.out))) : w.heap.size ≤ gb152)); clear HB; have HB := n0_; have BK152 := n1_; have GW152 := n2_; have GE152 := n3_; clear n0_ n1_ n2_ n3_; clear hb hbox hg))
     have n0_ := Aside0.mk (zai BK152.out)
     have n1_ := Aside0.mk (zae HB.out)
     clear BK152
     clear HB
     have BK152 := n0_
     have HB := n1_
     clear n0_ n1_
     refine zho (n := 9) (S := fun w' => w'.cell? ⟨gb152, 0, none⟩ = some (.int .i64 a0_0) ∧ w'.cell? ⟨gb152, 1, none⟩ = some (.int .i64 a0_1) ∧ w'.cell? ⟨gb152, 2, none⟩ = some (.int .i64 a0_2) ∧ w'.cell? ⟨gb152, 3, none⟩ = some (.string a0_3) ∧ w'.cell? ⟨gb152, 4, none⟩ = some (.string a0_4) ∧ w'.cell? ⟨gb152, 5, none⟩ = some (.string a0_5) ∧ w'.cell? ⟨gb152, 6, none⟩ = some (.string a0_6) ∧ w'.cell? ⟨gb152, 7, none⟩ = some (.string a0_7) ∧ w'.cell? ⟨gb152, 8, none⟩ = some (.string a0_8) ∧ w'.cell? ⟨gb152, 9, none⟩ = some (.slice A0_9 l0_9.length c0_9) ∧ w'.cell? ⟨gb152, 10, none⟩ = some (.int .i64 a0_10) ∧ w'.cell? ⟨gb152, 11, none⟩ = some (.int .i64 a0_11) ∧ w'.cell? ⟨gb152, 12, none⟩ = some (.int .i64 a0_12) ∧ w'.cell? ⟨gb152, 13, none⟩ = some (.slice A0_13 l0_13.length c0_13)) (ds := []) #[false, false, false, false, false, false, false, false, false] (by kernel_rfl) rfl rfl ⟨(zaa BK152.out 0).trans rfl, (zaa BK152.out 1).trans rfl, (zaa BK152.out 2).trans rfl, (zaa BK152.out 3).trans rfl, (zaa BK152.out 4).trans rfl, (zaa BK152.out 5).trans rfl, (zaa BK152.out 6).trans rfl, (zaa BK152.out 7).trans rfl, (zaa BK152.out 8).trans rfl, (zaa BK152.out 9).trans rfl, (zaa BK152.out 10).trans rfl, (zaa BK152.out 11).trans rfl, (zaa BK152.out 12).trans rfl, (zaa BK152.out 13).trans rfl⟩ (fun hHeld => ?_); refine zet zaq.tab1 zaq.bits1 (fun HT_ HW_ => ?_)
     generalize w47.drew = w48 at BK152 HB hHeld ⊢
     refine zde (i := 0) (N := some 7) (v := ?_) (a' := ?_) #[true, false, false, false, false, false, false, false, false] rfl rfl (zcn HT_.out (by kernel_rfl)) (fun _ _ _ h => h) (Or.inl ⟨by rfl, ?_⟩) ?_ ?_
     rotate_left
     ·intro w'
      go_simp
      with_reducible rfl
     rotate_left
     ·simp only [Act.put, List.setIfInBounds_toArray, List.set_cons_zero, List.set_cons_succ, zbz, zcc]
      rfl
     refine zde (i := 3) (N := some 10) (v := ?_) (a' := ?_) #[true, false, false, true, false, false, false, false, false] rfl rfl (zcn HT_.out (by kernel_rfl)) (fun _ _ _ h => h) (Or.inl ⟨by rfl, ?_⟩) ?_ ?_
     rotate_left
     ·intro w'
      go_simp
      with_reducible rfl
     rotate_left
     ·simp only [Act.put, List.setIfInBounds_toArray, List.set_cons_zero, List.set_cons_succ, zbz, zcc]
      rfl
     refine zgv (i := 1) (N := some 8) (v := ?_) (a' := ?_) #[true, true, false, true, false, false, false, false, false] rfl rfl (zdo HT_.out HW_.out (by kernel_rfl)) (fun _ _ _ h => h) (Or.inl ⟨by rfl, ?_⟩) hHeld ?_ ?_
     rotate_left
     ·rintro w' ⟨s0, s1, s2, s3, s4, s5, s6, s7, s8, s9, s10, s11, s12, s13⟩
      go_simp
      with_reducible rfl
     rotate_left
     ·simp only [Act.put, List.setIfInBounds_toArray, List.set_cons_zero, List.set_cons_succ, zbz, zcc]
      rfl
     refine zgv (i := 4) (N := some 11) (v := ?_) (a' := ?_) #[true, true, false, true, true, false, false, false, false] rfl rfl (zdo HT_.out HW_.out (by kernel_rfl)) (fun _ _ _ h => h) (Or.inl ⟨by rfl, ?_⟩) hHeld ?_ ?_
     rotate_left
     ·rintro w' ⟨s0, s1, s2, s3, s4, s5, s6, s7, s8, s9, s10, s11, s12, s13⟩
      go_simp
      with_reducible rfl
     rotate_left
     ·simp only [Act.put, List.setIfInBounds_toArray, List.set_cons_zero, List.set_cons_succ, zbz, zcc]
      rfl
     refine zde (i := 5) (N := some 12) (v := ?_) (a' := ?_) #[true, true, false, true, true, true, false, false, false] rfl rfl (zcn HT_.out (by kernel_rfl)) (fun _ _ _ h => h) (Or.inl ⟨by rfl, ?_⟩) ?_ ?_
     rotate_left
     ·intro w'
      go_simp
      with_reducible rfl
     rotate_left
     ·simp only [Act.put, List.setIfInBounds_toArray, List.set_cons_zero, List.set_cons_succ, zbz, zcc]
      rfl
     refine zjf (σ := Value × Value) 2 #[true, true, true, true, true, true, true, false, false] (fun s_ => [(9, s_.1), (13, s_.2)]) (fun s_ w' => (w'.cell? ⟨gb152, 0, none⟩ = some (.int .i64 a0_0) ∧ w'.cell? ⟨gb152, 1, none⟩ = some (.int .i64 a0_1) ∧ w'.cell? ⟨gb152, 2, none⟩ = some (.int .i64 a0_2) ∧ w'.cell? ⟨gb152, 3, none⟩ = some (.string a0_3) ∧ w'.cell? ⟨gb152, 4, none⟩ = some (.string a0_4) ∧ w'.cell? ⟨gb152, 5, none⟩ = some (.string a0_5) ∧ w'.cell? ⟨gb152, 6, none⟩ = some (.string a0_6) ∧ w'.cell? ⟨gb152, 7, none⟩ = some (.string a0_7) ∧ w'.cell? ⟨gb152, 8, none⟩ = some (.string a0_8) ∧ w'.cell? ⟨gb152, 9, none⟩ = some (.slice A0_9 l0_9.length c0_9) ∧ w'.cell? ⟨gb152, 10, none⟩ = some (.int .i64 a0_10) ∧ w'.cell? ⟨gb152, 11, none⟩ = some (.int .i64 a0_11) ∧ w'.cell? ⟨gb152, 12, none⟩ = some (.int .i64 a0_12) ∧ w'.cell? ⟨gb152, 13, none⟩ = some (.slice A0_13 l0_13.length c0_13)) ∧ (Kd.R (Kd.int .u8) 5 w' w.heap.size (fun k_ => some k_ ≠ (s_.2 : Value).ownBlock) s_.1 t153) ∧ (Kd.R (Kd.int .u8) 5 w' w.heap.size (fun k_ => some k_ ≠ (s_.1 : Value).ownBlock) s_.2 y156) ∧ (w'.heap[gb152]? = some (.cells #[.int .i64 a0_0, .int .i64 a0_1, .int .i64 a0_2, .string a0_3, .string a0_4, .string a0_5, .string a0_6, .string a0_7, .string a0_8, .slice A0_9 l0_9.length c0_9, .int .i64 a0_10, .int .i64 a0_11, .int .i64 a0_12, .slice A0_13 l0_13.length c0_13] 38 (0, 0))) ∧ (Below w.heap.size w w')) ?_ ?_
     rotate_left
     ·intro hCont
      refine two_ (i := 2) (j := 6) (Ni := some 9) (Nj := some 13) #[true, true, true, true, true, true, false, false, false] #[true, true, false, true, true, true, true, false, false] rfl rfl rfl rfl (zip HT_.out (by kernel_rfl)) (by decide) (by decide) (fun K hK => ?_) (fun K hK => ?_)
      ·skip
       refine zhj Try.func48 (by kernel_rfl) rfl #[.slice none 0 0, .int .i64 a0_0] (by rfl) rfl rfl (by (try simp only [List.map_toArray, List.map_cons, List.map_nil]); first | done | rfl | (simp only [List.length_drop, List.length_take]; rfl)) ?_
       refine (zao.calls k (fun k_ => some k_ = (.slice none 0 0 : Value).ownBlock) (.slice none 0 0) ([] : List Int) a0_0 t153 w _ ?side1 ?side2 A2.out).mono ?_
       (case side1 => repeat (first | (with_reducible first | exact HB.out | apply zad | apply zac | apply zae | refine zah ?_ GE152.out) | exact HB.out))
       (case side2 => exact Kd.zdf _ _ _ _ _)
       rintro e w49 ⟨v154, rfl, ho0, hb, hkp⟩
       refine ⟨_, rfl, ?_⟩
       have n0_ := Aside0.mk (zbr (by (with_reducible repeat (first | refine zag ?_ _ | refine zai ?_ | refine zaf ?_ _)); exact BK152.out) hkp (fun hs_ => (fun e_ => by simp [Value.ownBlock] at e_) hs_))
       have n1_ := Aside0.mk (Kd.zbh (ok' := fun k_ => True) ho0 (fun k_ hk_ => trivial))
       have n2_ := Aside0.mk (hb)
       clear BK152
       clear HB
       have BK152 := n0_
       have HO155 := n1_
       have HB := n2_
       clear n0_ n1_ n2_
       (try clear hb)
       (try clear hkp)
       (try clear ho0)
       refine hK.out _ _ ⟨(zaa BK152.out 0).trans rfl, (zaa BK152.out 1).trans rfl, (zaa BK152.out 2).trans rfl, (zaa BK152.out 3).trans rfl, (zaa BK152.out 4).trans rfl, (zaa BK152.out 5).trans rfl, (zaa BK152.out 6).trans rfl, (zaa BK152.out 7).trans rfl, (zaa BK152.out 8).trans rfl, (zaa BK152.out 9).trans rfl, (zaa BK152.out 10).trans rfl, (zaa BK152.out 11).trans rfl, (zaa BK152.out 12).trans rfl, (zaa BK152.out 13).trans rfl⟩ (fun hHeld => ?_)
       clear hK K
       refine zdk (a' := ?_) ?_ ?_
       rotate_left
       ·show Act.put _ (some 9) _ = _
        simp only [Act.put, List.setIfInBounds_toArray, List.set_cons_zero, List.set_cons_succ, zbz, zcc]
        rfl
       refine one_ (i := 6) (N := some 13) #[true, true, true, true, true, true, true, false, false] rfl rfl (zei HT_.out (by kernel_rfl)) (by decide) (fun K hK => ?_)
       refine Kd.zdq (Kd.int .u8) _ 5 ?hg (N := 13) ?hd (xs := ([(a0_1) % 256] : List Int)) (inner := [.int .u8 ((a0_1) % 256)]) (ok := fun _ => True) (okp := fun _ => True) ?hr ?hp (fun _ hk => hk) trivial (Below.refl _ _) (Nat.le_refl _) (by simp) ?_; (case hd => rfl); (case hg => rfl); (case hr => first | (go_simp; done) | (go_simp; rfl)); (case hp => exact (Reps.one (show Kd.M (Kd.int .u8) _ _ _ ((a0_1) % 256) [.int .u8 ((a0_1) % 256)] from rfl) (Reps.none _ _)))
       intro v157 w50 ho51 hb hg_ hnew_
       clear hg_ hnew_
       (first | rw [← Ny156.out] at ho51 | (simp only [Int.reduceToNat] at ho51; rw [← Ny156.out] at ho51))
       have n0_ := Aside0.mk (Kd.zez (by (with_reducible repeat (first | apply Kd.zbb | apply Kd.zba | apply Kd.zbf)); exact HO155.out) (Kd.zhg ho51) hb)
       have n1_ := Aside0.mk (Kd.zdn (Kd.zhf ho51 (Kd.R_lt (by (with_reducible repeat (first | apply Kd.zbb | apply Kd.zba | apply Kd.zbf)); exact HO155.out))) (zaz (by repeat (first | (with_reducible first | exact HB.out | apply zad | apply zac | apply zae | refine zah ?_ GE152.out) | exact HB.out))))
       have n2_ := Aside0.mk (zbn (g := gb152) (o := .cells #[.int .i64 a0_0, .int .i64 a0_1, .int .i64 a0_2, .string a0_3, .string a0_4, .string a0_5, .string a0_6, .string a0_7, .string a0_8, .slice A0_9 l0_9.length c0_9, .int .i64 a0_10, .int .i64 a0_11, .int .i64 a0_12, .slice A0_13 l0_13.length c0_13] 38 (0, 0)) (by (with_reducible repeat (first | refine zag ?_ _ | refine zai ?_ | refine zaf ?_ _)); exact BK152.out) hb)
       have n3_ := Aside0.mk (zbl (by repeat (first | (with_reducible first | exact HB.out | apply zad | apply zac | apply zae | refine zah ?_ GE152.out) | exact HB.out)) hb)
       clear HO155
       clear BK152
       clear HB
       have HO155 := n0_
       have HO158 := n1_
       have BK152 := n2_
       have HB := n3_
       clear n0_ n1_ n2_ n3_
       clear hb ho51
       refine hK.out _ _ ⟨(zaa BK152.out 0).trans rfl, (zaa BK152.out 1).trans rfl, (zaa BK152.out 2).trans rfl, (zaa BK152.out 3).trans rfl, (zaa BK152.out 4).trans rfl, (zaa BK152.out 5).trans rfl, (zaa BK152.out 6).trans rfl, (zaa BK152.out 7).trans rfl, (zaa BK152.out 8).trans rfl, (zaa BK152.out 9).trans rfl, (zaa BK152.out 10).trans rfl, (zaa BK152.out 11).trans rfl, (zaa BK152.out 12).trans rfl, (zaa BK152.out 13).trans rfl⟩ (fun hHeld => ?_)
       clear hK K
       refine zdk (a' := ?_) ?_ ?_
       rotate_left
       ·show Act.put _ (some 13) _ = _
        simp only [Act.put, List.setIfInBounds_toArray, List.set_cons_zero, List.set_cons_succ, zbz, zcc]
        rfl
       exact zdk (by simp only [putAll, Act.put, List.setIfInBounds_toArray, List.set_cons_zero, List.set_cons_succ]) (hCont (v154, v157) _ ⟨hHeld, (by (with_reducible repeat (first | apply Kd.zbb | apply Kd.zba | apply Kd.zbf)); exact Kd.zbh HO155.out (fun _ hk => hk.2)), (by (with_reducible repeat (first | apply Kd.zbb | apply Kd.zba | apply Kd.zbf)); exact Kd.zbh HO158.out (fun _ hk => hk.2)), (by (with_reducible repeat (first | refine zag ?_ _ | refine zai ?_ | refine zaf ?_ _)); exact BK152.out), (by repeat (first | (with_reducible first | exact HB.out | apply zad | apply zac | apply zae | refine zah ?_ GE152.out) | exact HB.out))⟩)
      ·skip
       refine Kd.zdq (Kd.int .u8) _ 5 ?hg (N := 13) ?hd (xs := ([(a0_1) % 256] : List Int)) (inner := [.int .u8 ((a0_1) % 256)]) (ok := fun _ => True) (okp := fun _ => True) ?hr ?hp (fun _ hk => hk) trivial (Below.refl _ _) (Nat.le_refl _) (by simp) ?_; (case hd => rfl); (case hg => rfl); (case hr => first | (go_simp; done) | (go_simp; rfl)); (case hp => exact (Reps.one (show Kd.M (Kd.int .u8) _ _ _ ((a0_1) % 256) [.int .u8 ((a0_1) % 256)] from rfl) (Reps.none _ _)))
       intro v157 w49 ho50 hb hg_ hnew_
       clear hg_ hnew_
       (first | rw [← Ny156.out] at ho50 | (simp only [Int.reduceToNat] at ho50; rw [← Ny156.out] at ho50))
       have n0_ := Aside0.mk (Kd.zdn ho50 (zaz (by repeat (first | (with_reducible first | exact HB.out | apply zad | apply zac | apply zae | refine zah ?_ GE152.out) | exact HB.out))))
       have n1_ := Aside0.mk (zbn (g := gb152) (o := .cells #[.int .i64 a0_0, .int .i64 a0_1, .int .i64 a0_2, .string a0_3, .string a0_4, .string a0_5, .string a0_6, .string a0_7, .string a0_8, .slice A0_9 l0_9.length c0_9, .int .i64 a0_10, .int .i64 a0_11, .int .i64 a0_12, .slice A0_13 l0_13.length c0_13] 38 (0, 0)) (by (with_reducible repeat (first | refine zag ?_ _ | refine zai ?_ | refine zaf ?_ _)); exact BK152.out) hb)
       have n2_ := Aside0.mk (zbl (by repeat (first | (with_reducible first | exact HB.out | apply zad | apply zac | apply zae | refine zah ?_ GE152.out) | exact HB.out)) hb)
       clear BK152
       clear HB
       have HO158 := n0_
       have BK152 := n1_
       have HB := n2_
       clear n0_ n1_ n2_
       clear hb ho50
       refine hK.out _ _ ⟨(zaa BK152.out 0).trans rfl, (zaa BK152.out 1).trans rfl, (zaa BK152.out 2).trans rfl, (zaa BK152.out 3).trans rfl, (zaa BK152.out 4).trans rfl, (zaa BK152.out 5).trans rfl, (zaa BK152.out 6).trans rfl, (zaa BK152.out 7).trans rfl, (zaa BK152.out 8).trans rfl, (zaa BK152.out 9).trans rfl, (zaa BK152.out 10).trans rfl, (zaa BK152.out 11).trans rfl, (zaa BK152.out 12).trans rfl, (zaa BK152.out 13).trans rfl⟩ (fun hHeld => ?_)
       clear hK K
       refine zdk (a' := ?_) ?_ ?_
       rotate_left
       ·show Act.put _ (some 13) _ = _
        simp only [Act.put, List.setIfInBounds_toArray, List.set_cons_zero, List.set_cons_succ, zbz, zcc]
        rfl
       refine one_ (i := 2) (N := some 9) #[true, true, true, true, true, true, true, false, false] rfl rfl (zei HT_.out (by kernel_rfl)) (by decide) (fun K hK => ?_)
       refine zhj Try.func48 (by kernel_rfl) rfl #[.slice none 0 0, .int .i64 a0_0] (by rfl) rfl rfl (by (try simp only [List.map_toArray, List.map_cons, List.map_nil]); first | done | rfl | (simp only [List.length_drop, List.length_take]; rfl)) ?_
       refine (zao.calls k (fun k_ => some k_ = (.slice none 0 0 : Value).ownBlock) (.slice none 0 0) ([] : List Int) a0_0 t153 w _ ?side1 ?side2 A2.out).mono ?_
       (case side1 => repeat (first | (with_reducible first | exact HB.out | apply zad | apply zac | apply zae | refine zah ?_ GE152.out) | exact HB.out))
       (case side2 => exact Kd.zdf _ _ _ _ _)
       rintro e w51 ⟨v154, rfl, ho0, hb, hkp⟩
       refine ⟨_, rfl, ?_⟩
       have n0_ := Aside0.mk (zbr (by (with_reducible repeat (first | refine zag ?_ _ | refine zai ?_ | refine zaf ?_ _)); exact BK152.out) hkp (fun hs_ => (fun e_ => by simp [Value.ownBlock] at e_) hs_))
       have n1_ := Aside0.mk (Kd.zbh (ok' := fun k_ => some k_ ≠ (v154 : Value).ownBlock) (Kd.zgg (HO158.out) hkp (fun k_ hk_ hs_ => (fun e_ => by simp [Value.ownBlock] at e_) hs_)) (fun k_ hk_ => fun e_ => Or.elim (ho0.1 k_ e_.symm) (fun hs_ => hk_.2.1 hs_) (fun hn_ => Nat.not_le.2 hk_.2.2 hn_)))
       have n2_ := Aside0.mk (Kd.zbh (ok' := fun k_ => some k_ ≠ (v157 : Value).ownBlock) ho0 (fun k_ hk_ => Or.elim hk_ (fun hs_ => absurd hs_ (by simp [Value.ownBlock])) (fun hn_ => (Kd.fresh' (Kd.R_lt (by (with_reducible repeat (first | apply Kd.zbb | apply Kd.zba | apply Kd.zbf)); exact HO158.out)) k_ hn_))))
       have n3_ := Aside0.mk (hb)
       clear BK152
       clear HO158
       clear HB
       have BK152 := n0_
       have HO158 := n1_
       have HO155 := n2_
       have HB := n3_
       clear n0_ n1_ n2_ n3_
       (try clear hb)
       (try clear hkp)
       (try clear ho0)
       refine hK.out _ _ ⟨(zaa BK152.out 0).trans rfl, (zaa BK152.out 1).trans rfl, (zaa BK152.out 2).trans rfl, (zaa BK152.out 3).trans rfl, (zaa BK152.out 4).trans rfl, (zaa BK152.out 5).trans rfl, (zaa BK152.out 6).trans rfl, (zaa BK152.out 7).trans rfl, (zaa BK152.out 8).trans rfl, (zaa BK152.out 9).trans rfl, (zaa BK152.out 10).trans rfl, (zaa BK152.out 11).trans rfl, (zaa BK152.out 12).trans rfl, (zaa BK152.out 13).trans rfl⟩ (fun hHeld => ?_)
       clear hK K
       refine zdk (a' := ?_) ?_ ?_
       rotate_left
       ·show Act.put _ (some 9) _ = _
        simp only [Act.put, List.setIfInBounds_toArray, List.set_cons_zero, List.set_cons_succ, zbz, zcc]
        rfl
       exact zdk (by simp only [putAll, Act.put, List.setIfInBounds_toArray, List.set_cons_zero, List.set_cons_succ]) (hCont (v154, v157) _ ⟨hHeld, (by (with_reducible repeat (first | apply Kd.zbb | apply Kd.zba | apply Kd.zbf)); exact HO155.out), (by (with_reducible repeat (first | apply Kd.zbb | apply Kd.zba | apply Kd.zbf)); exact HO158.out), (by (with_reducible repeat (first | refine zag ?_ _ | refine zai ?_ | refine zaf ?_ _)); exact BK152.out), (by repeat (first | (with_reducible first | exact HB.out | apply zad | apply zac | apply zae | refine zah ?_ GE152.out) | exact HB.out))⟩)
     rintro ⟨v154, v157⟩ w52 ⟨hS_, h0_, h1_, h2_, h3_⟩
     have n0_ : Aside0 (Kd.R (Kd.int .u8) 5 w52 w.heap.size (fun k_ => some k_ ≠ (v157 : Value).ownBlock) v154 t153) := ⟨h0_⟩
     have n1_ : Aside0 (Kd.R (Kd.int .u8) 5 w52 w.heap.size (fun k_ => some k_ ≠ (v154 : Value).ownBlock) v157 y156) := ⟨h1_⟩
     have n2_ : Aside0 (w52.heap[gb152]? = some (.cells #[.int .i64 a0_0, .int .i64 a0_1, .int .i64 a0_2, .string a0_3, .string a0_4, .string a0_5, .string a0_6, .string a0_7, .string a0_8, .slice A0_9 l0_9.length c0_9, .int .i64 a0_10, .int .i64 a0_11, .int .i64 a0_12, .slice A0_13 l0_13.length c0_13] 38 (0, 0))) := ⟨h2_⟩
     have n3_ : Aside0 (Below w.heap.size w w52) := ⟨h3_⟩
     clear BK152
     clear HB
     clear h0_ h1_ h2_ h3_
     have HO155 := n0_
     have HO158 := n1_
     have BK152 := n2_
     have HB := n3_
     clear n0_ n1_ n2_ n3_
     have hHeld : w52.cell? ⟨gb152, 0, none⟩ = some (.int .i64 a0_0) ∧ w52.cell? ⟨gb152, 1, none⟩ = some (.int .i64 a0_1) ∧ w52.cell? ⟨gb152, 2, none⟩ = some (.int .i64 a0_2) ∧ w52.cell? ⟨gb152, 3, none⟩ = some (.string a0_3) ∧ w52.cell? ⟨gb152, 4, none⟩ = some (.string a0_4) ∧ w52.cell? ⟨gb152, 5, none⟩ = some (.string a0_5) ∧ w52.cell? ⟨gb152, 6, none⟩ = some (.string a0_6) ∧ w52.cell? ⟨gb152, 7, none⟩ = some (.string a0_7) ∧ w52.cell? ⟨gb152, 8, none⟩ = some (.string a0_8) ∧ w52.cell? ⟨gb152, 9, none⟩ = some (.slice A0_9 l0_9.length c0_9) ∧ w52.cell? ⟨gb152, 10, none⟩ = some (.int .i64 a0_10) ∧ w52.cell? ⟨gb152, 11, none⟩ = some (.int .i64 a0_11) ∧ w52.cell? ⟨gb152, 12, none⟩ = some (.int .i64 a0_12) ∧ w52.cell? ⟨gb152, 13, none⟩ = some (.slice A0_13 l0_13.length c0_13) := hS_
     obtain ⟨Ao54, co54, eo54⟩ := Kd.zbu HO158.out
     (first | subst eo54 | (injection eo54 with f1_ f2_ f3_; have f4_ := f1_.symm; have f5_ := f3_.symm; clear f1_ f2_ f3_; subst f4_; subst f5_))
     refine zdk (a' := ?_) ?_ ?_
     rotate_left
     ·simp only [putAll, Act.put, List.setIfInBounds_toArray, List.set_cons_zero, List.set_cons_succ]
      rfl
     refine one_ (i := 7) (N := some 14) #[true, true, true, true, true, true, true, true, false] rfl rfl (zei HT_.out (by kernel_rfl)) (by decide) (fun K hK => ?_)
     refine Kd.zda (Kd.int .u8) (w0 := w) w.heap.size (by rfl) (.tmp 9) (.tmp 13) 27 5 (.int .u8 0) 1 rfl Try.underlying27 info5 rfl (by decide) (by omega) v154 t153 y156 _ _ _ (fun k_ => some k_ ≠ (.slice Ao54 y156.length co54 : Value).ownBlock) (fun _ => False) rfl rfl ?aO ?aR (fun _ _ h => h) (fun _ h => h.elim) ?aF ?aB ?aS ?aL ?_
     (case aR => repeat (first | exact (Kd.zed HO158.out).2.2 | (with_reducible refine Kd.zev ?_ _) | (with_reducible refine Kd.zeu ?_ _) | (with_reducible refine Kd.zfw ?_)))
     (case aB => exact (by repeat (first | (with_reducible first | exact HB.out | apply zad | apply zac | apply zae | refine zah ?_ GE152.out) | exact HB.out)))
     (case aF => exact (fun k_ hk => Kd.fresh' (Kd.R_lt (by (with_reducible repeat (first | apply Kd.zbb | apply Kd.zba | apply Kd.zbf)); exact HO158.out)) k_ hk))
     (case aO => exact (by (with_reducible repeat (first | apply Kd.zbb | apply Kd.zba | apply Kd.zbf)); exact HO155.out))
     (case aS => exact (zaz (by repeat (first | (with_reducible first | exact HB.out | apply zad | apply zac | apply zae | refine zah ?_ GE152.out) | exact HB.out))))
     (case aL => have := LMc3.out; omega)
     intro v160 w53 ho hb hg hat
     rw [← Ny159.out] at ho
     have n0_ := Aside0.mk (zbm (g := gb152) (o := .cells #[.int .i64 a0_0, .int .i64 a0_1, .int .i64 a0_2, .string a0_3, .string a0_4, .string a0_5, .string a0_6, .string a0_7, .string a0_8, .slice A0_9 l0_9.length c0_9, .int .i64 a0_10, .int .i64 a0_11, .int .i64 a0_12, .slice A0_13 l0_13.length c0_13] 38 (0, 0)) (by (with_reducible repeat (first | refine zag ?_ _ | refine zai ?_ | refine zaf ?_ _)); exact BK152.out) hg (Kd.R_ne HO155.out BK152.out (by decide)))
     have n1_ := Aside0.mk (Kd.zfu (ok := (fun _ => True)) (by (with_reducible repeat (first | apply Kd.zbb | apply Kd.zba | apply Kd.zbf)); exact Kd.zbh HO158.out (fun _ hk => ⟨trivial, hk⟩)) hg hat)
     have n2_ := Aside0.mk (hb)
     have n3_ := Aside0.mk (ho)
     clear BK152
     clear HO158
     clear HB
     clear HO155
     have BK152 := n0_
     have HO158 := n1_
     have HB := n2_
     have HO161 := n3_
     clear n0_ n1_ n2_ n3_
     clear ho hb hg hat
     refine hK.out _ _ ⟨(zaa BK152.out 0).trans rfl, (zaa BK152.out 1).trans rfl, (zaa BK152.out 2).trans rfl, (zaa BK152.out 3).trans rfl, (zaa BK152.out 4).trans rfl, (zaa BK152.out 5).trans rfl, (zaa BK152.out 6).trans rfl, (zaa BK152.out 7).trans rfl, (zaa BK152.out 8).trans rfl, (zaa BK152.out 9).trans rfl, (zaa BK152.out 10).trans rfl, (zaa BK152.out 11).trans rfl, (zaa BK152.out 12).trans rfl, (zaa BK152.out 13).trans rfl⟩ (fun hHeld => ?_)
     clear hK K
     refine zdk (a' := ?_) ?_ ?_
     rotate_left
     ·show Act.put _ (some 14) _ = _
      simp only [Act.put, List.setIfInBounds_toArray, List.set_cons_zero, List.set_cons_succ, zbz, zcc]
      rfl
     refine zde (i := 8) (N := some 4) (v := ?_) (a' := ?_) #[true, true, true, true, true, true, true, true, true] rfl rfl (zcn HT_.out (by kernel_rfl)) (fun _ _ _ h => h) (Or.inl ⟨by rfl, ?_⟩) ?_ ?_
     rotate_left
     ·intro w'
      go_simp
      with_reducible rfl
     rotate_left
     ·simp only [Act.put, List.setIfInBounds_toArray, List.set_cons_zero, List.set_cons_succ, zbz, zcc]
      rfl
     refine zis (zgd HT_.out (by kernel_rfl)) ?_
     have hcz55_0 : w53.cell? ⟨gb152, 0, none⟩ = some (.int .i64 a0_0) := (zaa BK152.out 0).trans rfl
     have hcz55_1 : w53.cell? ⟨gb152, 1, none⟩ = some (.int .i64 a0_1) := (zaa BK152.out 1).trans rfl
     have hcz55_2 : w53.cell? ⟨gb152, 2, none⟩ = some (.int .i64 a0_2) := (zaa BK152.out 2).trans rfl
     have hcz55_3 : w53.cell? ⟨gb152, 3, none⟩ = some (.string a0_3) := (zaa BK152.out 3).trans rfl
     have hcz55_4 : w53.cell? ⟨gb152, 4, none⟩ = some (.string a0_4) := (zaa BK152.out 4).trans rfl
     have hcz55_5 : w53.cell? ⟨gb152, 5, none⟩ = some (.string a0_5) := (zaa BK152.out 5).trans rfl
     have hcz55_6 : w53.cell? ⟨gb152, 6, none⟩ = some (.string a0_6) := (zaa BK152.out 6).trans rfl
     have hcz55_7 : w53.cell? ⟨gb152, 7, none⟩ = some (.string a0_7) := (zaa BK152.out 7).trans rfl
     have hcz55_8 : w53.cell? ⟨gb152, 8, none⟩ = some (.string a0_8) := (zaa BK152.out 8).trans rfl
     have hcz55_9 : w53.cell? ⟨gb152, 9, none⟩ = some (.slice A0_9 l0_9.length c0_9) := (zaa BK152.out 9).trans rfl
     have hcz55_10 : w53.cell? ⟨gb152, 10, none⟩ = some (.int .i64 a0_10) := (zaa BK152.out 10).trans rfl
     have hcz55_11 : w53.cell? ⟨gb152, 11, none⟩ = some (.int .i64 a0_11) := (zaa BK152.out 11).trans rfl
     have hcz55_12 : w53.cell? ⟨gb152, 12, none⟩ = some (.int .i64 a0_12) := (zaa BK152.out 12).trans rfl
     have hcz55_13 : w53.cell? ⟨gb152, 13, none⟩ = some (.slice A0_13 l0_13.length c0_13) := (zaa BK152.out 13).trans rfl
     have hfz55_0 := zab BK152.out 0
     have hfz55_1 := zab BK152.out 1
     have hfz55_2 := zab BK152.out 2
     have hfz55_3 := zab BK152.out 3
     have hfz55_4 := zab BK152.out 4
     have hfz55_5 := zab BK152.out 5
     have hfz55_6 := zab BK152.out 6
     have hfz55_7 := zab BK152.out 7
     have hfz55_8 := zab BK152.out 8
     have hfz55_9 := zab BK152.out 9
     have hfz55_10 := zab BK152.out 10
     have hfz55_11 := zab BK152.out 11
     have hfz55_12 := zab BK152.out 12
     have hfz55_13 := zab BK152.out 13
     obtain ⟨Ao56, co56, eo56⟩ := Kd.zbu HO161.out
     subst eo56
     try go_wp2_with (first | ((with_reducible refine zbe (f := 48) rfl ?_); refine zcg (some 46) rfl rfl Try.func48 (by kernel_rfl) rfl #[.slice Ao56 y159.length co56, .int .i64 (l0_13.length : Int)] rfl (by (try simp only [List.map_toArray, List.map_cons, List.map_nil]); first | done | rfl | (simp only [List.length_drop, List.length_take]; rfl)) ?_; (with_reducible refine (zao.calls k (fun k_ => some k_ = (.slice Ao56 y159.length co56 : Value).ownBlock) (.slice Ao56 y159.length co56) y159 (l0_13.length : Int) t169 w _ ?side1 ?side2 A46.out).mono ?_); (case side1 => repeat (first | (with_reducible first | exact HB.out | apply zad | apply zac | apply zae | refine zah ?_ GE152.out) | exact HB.out)); (case side2 => exact Kd.zct rfl HO161.out); rintro e w57 ⟨v170, rfl, ho0, hb, hkp⟩; refine ⟨_, rfl, ?_⟩; have n0_ := Aside0.mk (zbr (by (with_reducible repeat (first | refine zag ?_ _ | refine zai ?_ | refine zaf ?_ _)); exact BK152.out) hkp (fun hs_ => (fun e_ => (Kd.R_ne HO161.out BK152.out (by decide)) e_) hs_)); have n1_ := Aside0.mk (Kd.zbh (ok' := fun k_ => some k_ ≠ (v170 : Value).ownBlock) (Kd.zgg (HO158.out) hkp (fun k_ hk_ hs_ => (hk_.2) hs_)) (fun k_ hk_ => fun e_ => Or.elim (ho0.1 k_ e_.symm) (fun hs_ => hk_.2.1 hs_) (fun hn_ => Nat.not_le.2 hk_.2.2 hn_))); have n2_ := Aside0.mk (Kd.zbh (ok' := fun k_ => some k_ ≠ (.slice Ao54 y156.length co54 : Value).ownBlock) ho0 (fun k_ hk_ => Or.elim hk_ (fun hs_ => fun e_ => (((HO158.out).1 k_ e_.symm).2) hs_) (fun hn_ => (Kd.fresh' (Kd.R_lt (by (with_reducible repeat (first | apply Kd.zbb | apply Kd.zba | apply Kd.zbf)); exact HO158.out)) k_ hn_)))); have n3_ := Aside0.mk (hb); clear BK152; clear HO158; clear HB; clear HO161; have BK152 := n0_; have HO158 := n1_; have HO171 := n2_; have HB := n3_; clear n0_ n1_ n2_ n3_; (try clear hb); (try clear hkp); (try clear ho0); have hcz58_0 : w57.cell? ⟨gb152, 0, none⟩ = some (.int .i64 a0_0) := (zaa BK152.out 0).trans rfl; have hcz58_1 : w57.cell? ⟨gb152, 1, none⟩ = some (.int .i64 a0_1) := (zaa BK152.out 1).trans rfl; have hcz58_2 : w57.cell? ⟨gb152, 2, none⟩ = some (.int .i64 a0_2) := (zaa BK152.out 2).trans rfl; have hcz58_3 : w57.cell? ⟨gb152, 3, none⟩ = some (.string a0_3) := (zaa BK152.out 3).trans rfl; have hcz58_4 : w57.cell? ⟨gb152, 4, none⟩ = some (.string a0_4) := (zaa BK152.out 4).trans rfl; have hcz58_5 : w57.cell? ⟨gb152, 5, none⟩ = some (.string a0_5) := (zaa BK152.out 5).trans rfl; have hcz58_6 : w57.cell? ⟨gb152, 6, none⟩ = some (.string a0_6) := (zaa BK152.out 6).trans rfl; have hcz58_7 : w57.cell? ⟨gb152, 7, none⟩ = some (.string a0_7) := (zaa BK152.out 7).trans rfl; have hcz58_8 : w57.cell? ⟨gb152, 8, none⟩ = some (.string a0_8) := (zaa BK152.out 8).trans rfl; have hcz58_9 : w57.cell? ⟨gb152, 9, none⟩ = some (.slice A0_9 l0_9.length c0_9) := (zaa BK152.out 9).trans rfl; have hcz58_10 : w57.cell? ⟨gb152, 10, none⟩ = some (.int .i64 a0_10) := (zaa BK152.out 10).trans rfl; have hcz58_11 : w57.cell? ⟨gb152, 11, none⟩ = some (.int .i64 a0_11) := (zaa BK152.out 11).trans rfl; have hcz58_12 : w57.cell? ⟨gb152, 12, none⟩ = some (.int .i64 a0_12) := (zaa BK152.out 12).trans rfl; have hcz58_13 : w57.cell? ⟨gb152, 13, none⟩ = some (.slice A0_13 l0_13.length c0_13) := (zaa BK152.out 13).trans rfl; have hfz58_0 := zab BK152.out 0; have hfz58_1 := zab BK152.out 1; have hfz58_2 := zab BK152.out 2; have hfz58_3 := zab BK152.out 3; have hfz58_4 := zab BK152.out 4; have hfz58_5 := zab BK152.out 5; have hfz58_6 := zab BK152.out 6; have hfz58_7 := zab BK152.out 7; have hfz58_8 := zab BK152.out 8; have hfz58_9 := zab BK152.out 9; have hfz58_10 := zab BK152.out 10; have hfz58_11 := zab BK152.out 11; have hfz58_12 := zab BK152.out 12; have hfz58_13 := zab BK152.out 13))
     go_loopg [4, 50] k (fun kq v4 v50 w' => ∃ (x4_1 : List Int) (x50_1 : Int), v50 = .int .i64 x50_1 ∧ Aside0 (zaq.l0 kq x4_1 l0_13 (l0_13.length : Int) x50_1 a0_0 a0_1 a0_2 a0_3 a0_4 a0_5 a0_6 a0_7 a0_8 l0_9 a0_10 a0_11 a0_12 l0_13 = some (r1, r2)) ∧ Aside0 (kq ≤ k) ∧ Aside0 (Kd.R (Kd.int .u8) 5 w' w.heap.size (fun _ => True) v4 x4_1) ∧ Aside0 (w'.heap[gb152]? = some (.cells #[.int .i64 a0_0, .int .i64 a0_1, .int .i64 a0_2, .string a0_3, .string a0_4, .string a0_5, .string a0_6, .string a0_7, .string a0_8, (.slice A0_9 l0_9.length c0_9), .int .i64 a0_10, .int .i64 a0_11, .int .i64 a0_12, (.slice A0_13 l0_13.length c0_13)] 38 (0, 0))) ∧ Aside0 (Below w.heap.size w w'))
     case atStart => exact ⟨(t169), (0), (by first | rfl | (simp; done) | (simp [*]; done)), H', ⟨Nat.le_refl _⟩, ⟨by (with_reducible repeat (first | apply Kd.zbb | apply Kd.zba | apply Kd.zbf)); exact Kd.zbh HO171.out (fun _ hk => trivial)⟩, ⟨by (with_reducible repeat (first | refine zag ?_ _ | refine zai ?_ | refine zaf ?_ _)); exact BK152.out⟩, ⟨by repeat (first | (with_reducible first | exact HB.out | apply zad | apply zac | apply zae | refine zah ?_ GE152.out) | exact HB.out)⟩⟩
     case round =>
      clear H'
      try clear c2
      try clear p2
      try clear c3
      try clear c4
      try clear c23
      try clear c24
      try clear c29
      try clear c29b0
      try clear c29b1
      try clear c31
      try clear c45
      try clear c45b0
      try clear c45b1
      try clear c48
      try clear hcz40_0
      try clear hcz40_1
      try clear hcz40_10
      try clear hcz40_11
      try clear hcz40_12
      try clear hcz40_13
      try clear hcz40_2
      try clear hcz40_3
      try clear hcz40_4
      try clear hcz40_5
      try clear hcz40_6
      try clear hcz40_7
      try clear hcz40_8
      try clear hcz40_9
      try clear hcz55_0
      try clear hcz55_1
      try clear hcz55_10
      try clear hcz55_11
      try clear hcz55_12
      try clear hcz55_13
      try clear hcz55_2
      try clear hcz55_3
      try clear hcz55_4
      try clear hcz55_5
      try clear hcz55_6
      try clear hcz55_7
      try clear hcz55_8
      try clear hcz55_9
      try clear hcz58_0
      try clear hcz58_1
      try clear hcz58_10
      try clear hcz58_11
      try clear hcz58_12
      try clear hcz58_13
      try clear hcz58_2
      try clear hcz58_3
      try clear hcz58_4
      try clear hcz58_5
      try clear hcz58_6
      try clear hcz58_7
      try clear hcz58_8
      try clear hcz58_9
      try clear hfz40_0
      try clear hfz40_1
      try clear hfz40_10
      try clear hfz40_11
      try clear hfz40_12
      try clear hfz40_13
      try clear hfz40_2
      try clear hfz40_3
      try clear hfz40_4
      try clear hfz40_5
      try clear hfz40_6
      try clear hfz40_7
      try clear hfz40_8
      try clear hfz40_9
      try clear hfz55_0
      try clear hfz55_1
      try clear hfz55_10
      try clear hfz55_11
      try clear hfz55_12
      try clear hfz55_13
      try clear hfz55_2
      try clear hfz55_3
      try clear hfz55_4
      try clear hfz55_5
      try clear hfz55_6
      try clear hfz55_7
      try clear hfz55_8
      try clear hfz55_9
      try clear hfz58_0
      try clear hfz58_1
      try clear hfz58_10
      try clear hfz58_11
      try clear hfz58_12
      try clear hfz58_13
      try clear hfz58_2
      try clear hfz58_3
      try clear hfz58_4
      try clear hfz58_5
      try clear hfz58_6
      try clear hfz58_7
      try clear hfz58_8
      try clear hfz58_9
      obtain ⟨x4_1, x50_1, rfl, HA, HK1, HO_4, BK152, HB⟩ := hrel
      cases gk with
      | zero => exact absurd HA.out (by simp [zaq.l0])
      | succ k1 =>
       have H := HA.out
       clear HA
       simp only [zaq.l0] at H
       by_cases c59 : x50_1 < (l0_13.length : Int)
       ·rw [if_pos c59] at H
        have c59b0 : decide (x50_1 < (l0_13.length : Int)) = true := decide_eq_true c59
        clear c59
        by_cases c60 : 0 ≤ x50_1
        ·rw [if_pos c60] at H
         have c60b0 : decide (0 ≤ x50_1) = true := decide_eq_true c60
         clear c60
         by_cases c61 : x50_1 < (l0_13.length : Int)
         ·rw [if_pos c61] at H
          have c61b0 : decide (x50_1 < (l0_13.length : Int)) = true := decide_eq_true c61
          clear c61
          replace H := Option.bind_eq_some_iff.mp H
          obtain ⟨t173, A620, H⟩ := H
          replace H : (zaq.l0 k1 t173 l0_13 (l0_13.length : Int) (wrap64 (x50_1 + 1)) a0_0 a0_1 a0_2 a0_3 a0_4 a0_5 a0_6 a0_7 a0_8 l0_9 a0_10 a0_11 a0_12 l0_13) = some (r1, r2) := H
          have A62 := Aside0.mk A620
          clear A620
          have H' := Aside0.mk H
          clear H
          have p172 : 0 ≤ (x50_1 : Int) := of_decide_eq_true (by first | (with_reducible assumption) | assumption)
          have q172 : x50_1 < (l0_13.length : Int) := of_decide_eq_true (by first | (with_reducible assumption) | assumption)
          obtain ⟨ad172, e172, hx172_0⟩ := Kd.zfg HR0_13.out x50_1 p172 q172
          cases e172
          replace hx172_0 := (HB.out.cell (World.block_lt_of_cell? w _ hx172_0)).trans hx172_0
          replace p172 := eq_true p172
          replace q172 := eq_true q172
          obtain ⟨Ao63, co63, eo63⟩ := Kd.zbu HO_4.out
          subst eo63
          go_wp2_with (first | ((with_reducible refine zbe (f := 48) rfl ?_); refine zcg (some 56) rfl rfl Try.func48 (by kernel_rfl) rfl #[.slice Ao63 x4_1.length co63, .int .i64 (rd l0_13 x50_1)] rfl (by (try simp only [List.map_toArray, List.map_cons, List.map_nil]); first | done | rfl | (simp only [List.length_drop, List.length_take]; rfl)) ?_; (with_reducible refine (zao.calls k1 (fun k_ => some k_ = (.slice Ao63 x4_1.length co63 : Value).ownBlock) (.slice Ao63 x4_1.length co63) x4_1 (rd l0_13 x50_1) t173 w _ ?side1 ?side2 A62.out).mono ?_); (case side1 => repeat (first | (with_reducible first | exact HB.out | apply zad | apply zac | apply zae | refine zah ?_ GE152.out) | exact HB.out)); (case side2 => exact Kd.zct rfl HO_4.out); rintro e w64 ⟨v174, rfl, ho0, hb, hkp⟩; refine ⟨_, rfl, ?_⟩; have n0_ := Aside0.mk (zbr (by (with_reducible repeat (first | refine zag ?_ _ | refine zai ?_ | refine zaf ?_ _)); exact BK152.out) hkp (fun hs_ => (fun e_ => (Kd.R_ne HO_4.out BK152.out (by decide)) e_) hs_)); have n1_ := Aside0.mk (Kd.zbh (ok' := fun k_ => True) ho0 (fun k_ hk_ => trivial)); have n2_ := Aside0.mk (hb); clear BK152; clear HB; clear HO_4; have BK152 := n0_; have HO175 := n1_; have HB := n2_; clear n0_ n1_ n2_; (try clear hb); (try clear hkp); (try clear ho0)))
          go_roundg k1
          case measure => have := HK1.out; omega
          case rel => exact ⟨(t173), (wrap64 (x50_1 + 1)), (by first | rfl | (simp; done) | (simp [*]; done)), H', ⟨by have := HK1.out; omega⟩, ⟨by (with_reducible repeat (first | apply Kd.zbb | apply Kd.zba | apply Kd.zbf)); exact HO175.out⟩, ⟨by (with_reducible repeat (first | refine zag ?_ _ | refine zai ?_ | refine zaf ?_ _)); exact BK152.out⟩, ⟨by repeat (first | (with_reducible first | exact HB.out | apply zad | apply zac | apply zae | refine zah ?_ GE152.out) | exact HB.out)⟩⟩
         ·rw [if_neg c61] at H
          exact absurd H (by simp)
        ·rw [if_neg c60] at H
         exact absurd H (by simp)
       ·rw [if_neg c59] at H
        have c59b0 : decide (x50_1 < (l0_13.length : Int)) = false := decide_eq_false c59
        clear c59
        replace H := Option.bind_eq_some_iff.mp H
        obtain ⟨t176, A650, H⟩ := H
        replace H : (some (x4_1, t176)) = some (r1, r2) := H
        have A65 := Aside0.mk A650
        clear A650
        simp only [Option.some.injEq, Prod.mk.injEq] at H
        obtain ⟨rfl, rfl⟩ := H
        have hcz66_0 : wr.cell? ⟨gb152, 0, none⟩ = some (.int .i64 a0_0) := (zaa BK152.out 0).trans rfl
        have hcz66_1 : wr.cell? ⟨gb152, 1, none⟩ = some (.int .i64 a0_1) := (zaa BK152.out 1).trans rfl
        have hcz66_2 : wr.cell? ⟨gb152, 2, none⟩ = some (.int .i64 a0_2) := (zaa BK152.out 2).trans rfl
        have hcz66_3 : wr.cell? ⟨gb152, 3, none⟩ = some (.string a0_3) := (zaa BK152.out 3).trans rfl
        have hcz66_4 : wr.cell? ⟨gb152, 4, none⟩ = some (.string a0_4) := (zaa BK152.out 4).trans rfl
        have hcz66_5 : wr.cell? ⟨gb152, 5, none⟩ = some (.string a0_5) := (zaa BK152.out 5).trans rfl
        have hcz66_6 : wr.cell? ⟨gb152, 6, none⟩ = some (.string a0_6) := (zaa BK152.out 6).trans rfl
        have hcz66_7 : wr.cell? ⟨gb152, 7, none⟩ = some (.string a0_7) := (zaa BK152.out 7).trans rfl
        have hcz66_8 : wr.cell? ⟨gb152, 8, none⟩ = some (.string a0_8) := (zaa BK152.out 8).trans rfl
        have hcz66_9 : wr.cell? ⟨gb152, 9, none⟩ = some (.slice A0_9 l0_9.length c0_9) := (zaa BK152.out 9).trans rfl
        have hcz66_10 : wr.cell? ⟨gb152, 10, none⟩ = some (.int .i64 a0_10) := (zaa BK152.out 10).trans rfl
        have hcz66_11 : wr.cell? ⟨gb152, 11, none⟩ = some (.int .i64 a0_11) := (zaa BK152.out 11).trans rfl
        have hcz66_12 : wr.cell? ⟨gb152, 12, none⟩ = some (.int .i64 a0_12) := (zaa BK152.out 12).trans rfl
        have hcz66_13 : wr.cell? ⟨gb152, 13, none⟩ = some (.slice A0_13 l0_13.length c0_13) := (zaa BK152.out 13).trans rfl
        have hfz66_0 := zab BK152.out 0
        have hfz66_1 := zab BK152.out 1
        have hfz66_2 := zab BK152.out 2
        have hfz66_3 := zab BK152.out 3
        have hfz66_4 := zab BK152.out 4
        have hfz66_5 := zab BK152.out 5
        have hfz66_6 := zab BK152.out 6
        have hfz66_7 := zab BK152.out 7
        have hfz66_8 := zab BK152.out 8
        have hfz66_9 := zab BK152.out 9
        have hfz66_10 := zab BK152.out 10
        have hfz66_11 := zab BK152.out 11
        have hfz66_12 := zab BK152.out 12
        have hfz66_13 := zab BK152.out 13
        go_wp2_with (first | ((with_reducible refine zbe (f := 21) rfl ?_); refine zcg (some 61) rfl rfl Try.func21 (by kernel_rfl) rfl #[.agg #[.int .i64 a0_2, .string a0_3, .string a0_4, .string a0_5, .string a0_6, .string a0_7, .string a0_8, .slice A0_9 l0_9.length c0_9, .int .i64 a0_10, .int .i64 a0_11, .int .i64 a0_12]] rfl (by (try simp only [List.map_toArray, List.map_cons, List.map_nil]); first | done | rfl | (simp only [List.length_drop, List.length_take]; rfl)) ?_; (with_reducible refine (zbp.calls a0_2 a0_3 a0_4 a0_5 a0_6 a0_7 a0_8 _ _ l0_9 a0_10 a0_11 a0_12 t176 _ ?side1 ?side2 A65.out).mono ?_); (case side1 => repeat (first | exact (Kd.zci HR0_9.out HB.out) | (with_reducible refine Kd.zev ?_ _) | (with_reducible refine Kd.zeu ?_ _) | (with_reducible refine Kd.zfw ?_))); (case side2 => exact HC0_9.out); rintro e w67 ⟨rfl, hb⟩; refine ⟨_, rfl, ?_⟩; have n0_ := Aside0.mk (Kd.zcq (by (with_reducible repeat (first | apply Kd.zbb | apply Kd.zba | apply Kd.zbf)); exact HO_4.out) hb); have n1_ := Aside0.mk (zbn (g := gb152) (o := .cells #[.int .i64 a0_0, .int .i64 a0_1, .int .i64 a0_2, .string a0_3, .string a0_4, .string a0_5, .string a0_6, .string a0_7, .string a0_8, .slice A0_9 l0_9.length c0_9, .int .i64 a0_10, .int .i64 a0_11, .int .i64 a0_12, .slice A0_13 l0_13.length c0_13] 38 (0, 0)) (by (with_reducible repeat (first | refine zag ?_ _ | refine zai ?_ | refine zaf ?_ _)); exact BK152.out) hb); have n2_ := Aside0.mk (zbl (by repeat (first | (with_reducible first | exact HB.out | apply zad | apply zac | apply zae | refine zah ?_ GE152.out) | exact HB.out)) hb); clear HO_4; clear BK152; clear HB; have HO_4 := n0_; have BK152 := n1_; have HB := n2_; clear n0_ n1_ n2_; (try clear hb); (try clear hb2); (try clear hk); (try clear hi)))
        go_ret2
        exact ⟨_, by first | rfl | (simp [zay, zax] <;> rfl) | (simp [*, zay, zax] <;> rfl), by (with_reducible repeat (first | apply Kd.zbb | apply Kd.zba | apply Kd.zbf)); exact HO_4.out, by repeat (first | (with_reducible first | exact HB.out | apply zad | apply zac | apply zae | refine zah ?_ GE152.out) | exact HB.out)⟩
    ·rw [if_neg c45] at H
     have c45b0 : (a0_1 == 2) = false := beq_eq_false_iff_ne.mpr c45
     have c45b1 : (a0_1 != 2) = true := bne_iff_ne.mpr c45
     simp only [Option.some.injEq, Prod.mk.injEq] at H
     obtain ⟨rfl, rfl⟩ := H
     go_enter Try.func24, Try.ntmps24
     try go_wp2_with (first | ((with_reducible refine zcr (N := 1) rfl ?_); (try (refine zcv (by rfl) ?_; dsimp only)); refine zcm ?hg (N := 1) ?hd (cs := #[.int .i64 a0_0, .int .i64 a0_1, .int .i64 a0_2, .string a0_3, .string a0_4, .string a0_5, .string a0_6, .string a0_7, .string a0_8, .slice A0_9 l0_9.length c0_9, .int .i64 a0_10, .int .i64 a0_11, .int .i64 a0_12, .slice A0_13 l0_13.length c0_13]) (t := 38) ?hr ?_; (case hd => rfl); (case hg => rfl); (case hr => first | (go_simp; done) | (go_simp; rfl)); intro gb152 hg w68 hbox hb; have n0_ := Aside0.mk (zbl (by repeat (first | (with_reducible first | exact HB.out | apply zad | apply zac | apply zae) | exact HB.out)) hb); have n1_ := Aside0.mk (hbox); have n2_ := Aside0.mk ((by rw [hg]; exact (zaz (by repeat (first | (with_reducible first | exact HB.out | apply zad | apply zac | apply zae) | exact HB.out))) : w.heap.size ≤ gb152)); have n3_ := Aside0.mk ((by rw [hg]; exact (zaz (by repeat (first | (with_reducible first | exact HB.out | apply zad | apply zac | apply zae) | exact HB.out))) : w.heap.size ≤ gb152)); clear HB; have HB := n0_; have BK152 := n1_; have GW152 := n2_; have GE152 := n3_; clear n0_ n1_ n2_ n3_; clear hb hbox hg))
     have n0_ := Aside0.mk (zai BK152.out)
     have n1_ := Aside0.mk (zae HB.out)
     clear BK152
     clear HB
     have BK152 := n0_
     have HB := n1_
     clear n0_ n1_
     refine zho (n := 9) (S := fun w' => w'.cell? ⟨gb152, 0, none⟩ = some (.int .i64 a0_0) ∧ w'.cell? ⟨gb152, 1, none⟩ = some (.int .i64 a0_1) ∧ w'.cell? ⟨gb152, 2, none⟩ = some (.int .i64 a0_2) ∧ w'.cell? ⟨gb152, 3, none⟩ = some (.string a0_3) ∧ w'.cell? ⟨gb152, 4, none⟩ = some (.string a0_4) ∧ w'.cell? ⟨gb152, 5, none⟩ = some (.string a0_5) ∧ w'.cell? ⟨gb152, 6, none⟩ = some (.string a0_6) ∧ w'.cell? ⟨gb152, 7, none⟩ = some (.string a0_7) ∧ w'.cell? ⟨gb152, 8, none⟩ = some (.string a0_8) ∧ w'.cell? ⟨gb152, 9, none⟩ = some (.slice A0_9 l0_9.length c0_9) ∧ w'.cell? ⟨gb152, 10, none⟩ = some (.int .i64 a0_10) ∧ w'.cell? ⟨gb152, 11, none⟩ = some (.int .i64 a0_11) ∧ w'.cell? ⟨gb152, 12, none⟩ = some (.int .i64 a0_12) ∧ w'.cell? ⟨gb152, 13, none⟩ = some (.slice A0_13 l0_13.length c0_13)) (ds := []) #[false, false, false, false, false, false, false, false, false] (by kernel_rfl) rfl rfl ⟨(zaa BK152.out 0).trans rfl, (zaa BK152.out 1).trans rfl, (zaa BK152.out 2).trans rfl, (zaa BK152.out 3).trans rfl, (zaa BK152.out 4).trans rfl, (zaa BK152.out 5).trans rfl, (zaa BK152.out 6).trans rfl, (zaa BK152.out 7).trans rfl, (zaa BK152.out 8).trans rfl, (zaa BK152.out 9).trans rfl, (zaa BK152.out 10).trans rfl, (zaa BK152.out 11).trans rfl, (zaa BK152.out 12).trans rfl, (zaa BK152.out 13).trans rfl⟩ (fun hHeld => ?_); refine zet zaq.tab1 zaq.bits1 (fun HT_ HW_ => ?_)
     generalize w68.drew = w69 at BK152 HB hHeld ⊢
     refine zde (i := 0) (N := some 7) (v := ?_) (a' := ?_) #[true, false, false, false, false, false, false, false, false] rfl rfl (zcn HT_.out (by kernel_rfl)) (fun _ _ _ h => h) (Or.inl ⟨by rfl, ?_⟩) ?_ ?_
     rotate_left
     ·intro w'
      go_simp
      with_reducible rfl
     rotate_left
     ·simp only [Act.put, List.setIfInBounds_toArray, List.set_cons_zero, List.set_cons_succ, zbz, zcc]
      rfl
     refine zde (i := 3) (N := some 10) (v := ?_) (a' := ?_) #[true, false, false, true, false, false, false, false, false] rfl rfl (zcn HT_.out (by kernel_rfl)) (fun _ _ _ h => h) (Or.inl ⟨by rfl, ?_⟩) ?_ ?_
     rotate_left
     ·intro w'
      go_simp
      with_reducible rfl
     rotate_left
     ·simp only [Act.put, List.setIfInBounds_toArray, List.set_cons_zero, List.set_cons_succ, zbz, zcc]
      rfl
     refine zgv (i := 1) (N := some 8) (v := ?_) (a' := ?_) #[true, true, false, true, false, false, false, false, false] rfl rfl (zdo HT_.out HW_.out (by kernel_rfl)) (fun _ _ _ h => h) (Or.inl ⟨by rfl, ?_⟩) hHeld ?_ ?_
     rotate_left
     ·rintro w' ⟨s0, s1, s2, s3, s4, s5, s6, s7, s8, s9, s10, s11, s12, s13⟩
      go_simp
      with_reducible rfl
     rotate_left
     ·simp only [Act.put, List.setIfInBounds_toArray, List.set_cons_zero, List.set_cons_succ, zbz, zcc]
      rfl
     refine zgv (i := 4) (N := some 11) (v := ?_) (a' := ?_) #[true, true, false, true, true, false, false, false, false] rfl rfl (zdo HT_.out HW_.out (by kernel_rfl)) (fun _ _ _ h => h) (Or.inl ⟨by rfl, ?_⟩) hHeld ?_ ?_
     rotate_left
     ·rintro w' ⟨s0, s1, s2, s3, s4, s5, s6, s7, s8, s9, s10, s11, s12, s13⟩
      go_simp
      with_reducible rfl
     rotate_left
     ·simp only [Act.put, List.setIfInBounds_toArray, List.set_cons_zero, List.set_cons_succ, zbz, zcc]
      rfl
     refine zde (i := 5) (N := some 12) (v := ?_) (a' := ?_) #[true, true, false, true, true, true, false, false, false] rfl rfl (zcn HT_.out (by kernel_rfl)) (fun _ _ _ h => h) (Or.inl ⟨by rfl, ?_⟩) ?_ ?_
     rotate_left
     ·intro w'
      go_simp
      with_reducible rfl
     rotate_left
     ·simp only [Act.put, List.setIfInBounds_toArray, List.set_cons_zero, List.set_cons_succ, zbz, zcc]
      rfl
     refine zjf (σ := Value × Value) 2 #[true, true, true, true, true, true, true, false, false] (fun s_ => [(9, s_.1), (13, s_.2)]) (fun s_ w' => (w'.cell? ⟨gb152, 0, none⟩ = some (.int .i64 a0_0) ∧ w'.cell? ⟨gb152, 1, none⟩ = some (.int .i64 a0_1) ∧ w'.cell? ⟨gb152, 2, none⟩ = some (.int .i64 a0_2) ∧ w'.cell? ⟨gb152, 3, none⟩ = some (.string a0_3) ∧ w'.cell? ⟨gb152, 4, none⟩ = some (.string a0_4) ∧ w'.cell? ⟨gb152, 5, none⟩ = some (.string a0_5) ∧ w'.cell? ⟨gb152, 6, none⟩ = some (.string a0_6) ∧ w'.cell? ⟨gb152, 7, none⟩ = some (.string a0_7) ∧ w'.cell? ⟨gb152, 8, none⟩ = some (.string a0_8) ∧ w'.cell? ⟨gb152, 9, none⟩ = some (.slice A0_9 l0_9.length c0_9) ∧ w'.cell? ⟨gb152, 10, none⟩ = some (.int .i64 a0_10) ∧ w'.cell? ⟨gb152, 11, none⟩ = some (.int .i64 a0_11) ∧ w'.cell? ⟨gb152, 12, none⟩ = some (.int .i64 a0_12) ∧ w'.cell? ⟨gb152, 13, none⟩ = some (.slice A0_13 l0_13.length c0_13)) ∧ (Kd.R (Kd.int .u8) 5 w' w.heap.size (fun k_ => some k_ ≠ (s_.2 : Value).ownBlock) s_.1 t153) ∧ (Kd.R (Kd.int .u8) 5 w' w.heap.size (fun k_ => some k_ ≠ (s_.1 : Value).ownBlock) s_.2 y156) ∧ (w'.heap[gb152]? = some (.cells #[.int .i64 a0_0, .int .i64 a0_1, .int .i64 a0_2, .string a0_3, .string a0_4, .string a0_5, .string a0_6, .string a0_7, .string a0_8, .slice A0_9 l0_9.length c0_9, .int .i64 a0_10, .int .i64 a0_11, .int .i64 a0_12, .slice A0_13 l0_13.length c0_13] 38 (0, 0))) ∧ (Below w.heap.size w w')) ?_ ?_
     rotate_left
     ·intro hCont
      refine two_ (i := 2) (j := 6) (Ni := some 9) (Nj := some 13) #[true, true, true, true, true, true, false, false, false] #[true, true, false, true, true, true, true, false, false] rfl rfl rfl rfl (zip HT_.out (by kernel_rfl)) (by decide) (by decide) (fun K hK => ?_) (fun K hK => ?_)
      ·skip
       refine zhj Try.func48 (by kernel_rfl) rfl #[.slice none 0 0, .int .i64 a0_0] (by rfl) rfl rfl (by (try simp only [List.map_toArray, List.map_cons, List.map_nil]); first | done | rfl | (simp only [List.length_drop, List.length_take]; rfl)) ?_
       refine (zao.calls k (fun k_ => some k_ = (.slice none 0 0 : Value).ownBlock) (.slice none 0 0) ([] : List Int) a0_0 t153 w _ ?side1 ?side2 A2.out).mono ?_
       (case side1 => repeat (first | (with_reducible first | exact HB.out | apply zad | apply zac | apply zae | refine zah ?_ GE152.out) | exact HB.out))
       (case side2 => exact Kd.zdf _ _ _ _ _)
       rintro e w70 ⟨v154, rfl, ho0, hb, hkp⟩
       refine ⟨_, rfl, ?_⟩
       have n0_ := Aside0.mk (zbr (by (with_reducible repeat (first | refine zag ?_ _ | refine zai ?_ | refine zaf ?_ _)); exact BK152.out) hkp (fun hs_ => (fun e_ => by simp [Value.ownBlock] at e_) hs_))
       have n1_ := Aside0.mk (Kd.zbh (ok' := fun k_ => True) ho0 (fun k_ hk_ => trivial))
       have n2_ := Aside0.mk (hb)
       clear BK152
       clear HB
       have BK152 := n0_
       have HO155 := n1_
       have HB := n2_
       clear n0_ n1_ n2_
       (try clear hb)
       (try clear hkp)
       (try clear ho0)
       refine hK.out _ _ ⟨(zaa BK152.out 0).trans rfl, (zaa BK152.out 1).trans rfl, (zaa BK152.out 2).trans rfl, (zaa BK152.out 3).trans rfl, (zaa BK152.out 4).trans rfl, (zaa BK152.out 5).trans rfl, (zaa BK152.out 6).trans rfl, (zaa BK152.out 7).trans rfl, (zaa BK152.out 8).trans rfl, (zaa BK152.out 9).trans rfl, (zaa BK152.out 10).trans rfl, (zaa BK152.out 11).trans rfl, (zaa BK152.out 12).trans rfl, (zaa BK152.out 13).trans rfl⟩ (fun hHeld => ?_)
       clear hK K
       refine zdk (a' := ?_) ?_ ?_
       rotate_left
       ·show Act.put _ (some 9) _ = _
        simp only [Act.put, List.setIfInBounds_toArray, List.set_cons_zero, List.set_cons_succ, zbz, zcc]
        rfl
       refine one_ (i := 6) (N := some 13) #[true, true, true, true, true, true, true, false, false] rfl rfl (zei HT_.out (by kernel_rfl)) (by decide) (fun K hK => ?_)
       refine Kd.zdq (Kd.int .u8) _ 5 ?hg (N := 13) ?hd (xs := ([(a0_1) % 256] : List Int)) (inner := [.int .u8 ((a0_1) % 256)]) (ok := fun _ => True) (okp := fun _ => True) ?hr ?hp (fun _ hk => hk) trivial (Below.refl _ _) (Nat.le_refl _) (by simp) ?_; (case hd => rfl); (case hg => rfl); (case hr => first | (go_simp; done) | (go_simp; rfl)); (case hp => exact (Reps.one (show Kd.M (Kd.int .u8) _ _ _ ((a0_1) % 256) [.int .u8 ((a0_1) % 256)] from rfl) (Reps.none _ _)))
       intro v157 w71 ho72 hb hg_ hnew_
       clear hg_ hnew_
       (first | rw [← Ny156.out] at ho72 | (simp only [Int.reduceToNat] at ho72; rw [← Ny156.out] at ho72))
       have n0_ := Aside0.mk (Kd.zez (by (with_reducible repeat (first | apply Kd.zbb | apply Kd.zba | apply Kd.zbf)); exact HO155.out) (Kd.zhg ho72) hb)
       have n1_ := Aside0.mk (Kd.zdn (Kd.zhf ho72 (Kd.R_lt (by (with_reducible repeat (first | apply Kd.zbb | apply Kd.zba | apply Kd.zbf)); exact HO155.out))) (zaz (by repeat (first | (with_reducible first | exact HB.out | apply zad | apply zac | apply zae | refine zah ?_ GE152.out) | exact HB.out))))
       have n2_ := Aside0.mk (zbn (g := gb152) (o := .cells #[.int .i64 a0_0, .int .i64 a0_1, .int .i64 a0_2, .string a0_3, .string a0_4, .string a0_5, .string a0_6, .string a0_7, .string a0_8, .slice A0_9 l0_9.length c0_9, .int .i64 a0_10, .int .i64 a0_11, .int .i64 a0_12, .slice A0_13 l0_13.length c0_13] 38 (0, 0)) (by (with_reducible repeat (first | refine zag ?_ _ | refine zai ?_ | refine zaf ?_ _)); exact BK152.out) hb)
       have n3_ := Aside0.mk (zbl (by repeat (first | (with_reducible first | exact HB.out | apply zad | apply zac | apply zae | refine zah ?_ GE152.out) | exact HB.out)) hb)
       clear HO155
       clear BK152
       clear HB
       have HO155 := n0_
       have HO158 := n1_
       have BK152 := n2_
       have HB := n3_
       clear n0_ n1_ n2_ n3_
       clear hb ho72
       refine hK.out _ _ ⟨(zaa BK152.out 0).trans rfl, (zaa BK152.out 1).trans rfl, (zaa BK152.out 2).trans rfl, (zaa BK152.out 3).trans rfl, (zaa BK152.out 4).trans rfl, (zaa BK152.out 5).trans rfl, (zaa BK152.out 6).trans rfl, (zaa BK152.out 7).trans rfl, (zaa BK152.out 8).trans rfl, (zaa BK152.out 9).trans rfl, (zaa BK152.out 10).trans rfl, (zaa BK152.out 11).trans rfl, (zaa BK152.out 12).trans rfl, (zaa BK152.out 13).trans rfl⟩ (fun hHeld => ?_)
       clear hK K
       refine zdk (a' := ?_) ?_ ?_
       rotate_left
       ·show Act.put _ (some 13) _ = _
        simp only [Act.put, List.setIfInBounds_toArray, List.set_cons_zero, List.set_cons_succ, zbz, zcc]
        rfl
       exact zdk (by simp only [putAll, Act.put, List.setIfInBounds_toArray, List.set_cons_zero, List.set_cons_succ]) (hCont (v154, v157) _ ⟨hHeld, (by (with_reducible repeat (first | apply Kd.zbb | apply Kd.zba | apply Kd.zbf)); exact Kd.zbh HO155.out (fun _ hk => hk.2)), (by (with_reducible repeat (first | apply Kd.zbb | apply Kd.zba | apply Kd.zbf)); exact Kd.zbh HO158.out (fun _ hk => hk.2)), (by (with_reducible repeat (first | refine zag ?_ _ | refine zai ?_ | refine zaf ?_ _)); exact BK152.out), (by repeat (first | (with_reducible first | exact HB.out | apply zad | apply zac | apply zae | refine zah ?_ GE152.out) | exact HB.out))⟩)
      ·skip
       refine Kd.zdq (Kd.int .u8) _ 5 ?hg (N := 13) ?hd (xs := ([(a0_1) % 256] : List Int)) (inner := [.int .u8 ((a0_1) % 256)]) (ok := fun _ => True) (okp := fun _ => True) ?hr ?hp (fun _ hk => hk) trivial (Below.refl _ _) (Nat.le_refl _) (by simp) ?_; (case hd => rfl); (case hg => rfl); (case hr => first | (go_simp; done) | (go_simp; rfl)); (case hp => exact (Reps.one (show Kd.M (Kd.int .u8) _ _ _ ((a0_1) % 256) [.int .u8 ((a0_1) % 256)] from rfl) (Reps.none _ _)))
       intro v157 w70 ho71 hb hg_ hnew_
       clear hg_ hnew_
       (first | rw [← Ny156.out] at ho71 | (simp only [Int.reduceToNat] at ho71; rw [← Ny156.out] at ho71))
       have n0_ := Aside0.mk (Kd.zdn ho71 (zaz (by repeat (first | (with_reducible first | exact HB.out | apply zad | apply zac | apply zae | refine zah ?_ GE152.out) | exact HB.out))))
       have n1_ := Aside0.mk (zbn (g := gb152) (o := .cells #[.int .i64 a0_0, .int .i64 a0_1, .int .i64 a0_2, .string a0_3, .string a0_4, .string a0_5, .string a0_6, .string a0_7, .string a0_8, .slice A0_9 l0_9.length c0_9, .int .i64 a0_10, .int .i64 a0_11, .int .i64 a0_12, .slice A0_13 l0_13.length c0_13] 38 (0, 0)) (by (with_reducible repeat (first | refine zag ?_ _ | refine zai ?_ | refine zaf ?_ _)); exact BK152.out) hb)
       have n2_ := Aside0.mk (zbl (by repeat (first | (with_reducible first | exact HB.out | apply zad | apply zac | apply zae | refine zah ?_ GE152.out) | exact HB.out)) hb)
       clear BK152
       clear HB
       have HO158 := n0_
       have BK152 := n1_
       have HB := n2_
       clear n0_ n1_ n2_
       clear hb ho71
       refine hK.out _ _ ⟨(zaa BK152.out 0).trans rfl, (zaa BK152.out 1).trans rfl, (zaa BK152.out 2).trans rfl, (zaa BK152.out 3).trans rfl, (zaa BK152.out 4).trans rfl, (zaa BK152.out 5).trans rfl, (zaa BK152.out 6).trans rfl, (zaa BK152.out 7).trans rfl, (zaa BK152.out 8).trans rfl, (zaa BK152.out 9).trans rfl, (zaa BK152.out 10).trans rfl, (zaa BK152.out 11).trans rfl, (zaa BK152.out 12).trans rfl, (zaa BK152.out 13).trans rfl⟩ (fun hHeld => ?_)
       clear hK K
       refine zdk (a' := ?_) ?_ ?_
       rotate_left
       ·show Act.put _ (some 13) _ = _
        simp only [Act.put, List.setIfInBounds_toArray, List.set_cons_zero, List.set_cons_succ, zbz, zcc]
        rfl
       refine one_ (i := 2) (N := some 9) #[true, true, true, true, true, true, true, false, false] rfl rfl (zei HT_.out (by kernel_rfl)) (by decide) (fun K hK => ?_)
       refine zhj Try.func48 (by kernel_rfl) rfl #[.slice none 0 0, .int .i64 a0_0] (by rfl) rfl rfl (by (try simp only [List.map_toArray, List.map_cons, List.map_nil]); first | done | rfl | (simp only [List.length_drop, List.length_take]; rfl)) ?_
       refine (zao.calls k (fun k_ => some k_ = (.slice none 0 0 : Value).ownBlock) (.slice none 0 0) ([] : List Int) a0_0 t153 w _ ?side1 ?side2 A2.out).mono ?_
       (case side1 => repeat (first | (with_reducible first | exact HB.out | apply zad | apply zac | apply zae | refine zah ?_ GE152.out) | exact HB.out))
       (case side2 => exact Kd.zdf _ _ _ _ _)
       rintro e w72 ⟨v154, rfl, ho0, hb, hkp⟩
       refine ⟨_, rfl, ?_⟩
       have n0_ := Aside0.mk (zbr (by (with_reducible repeat (first | refine zag ?_ _ | refine zai ?_ | refine zaf ?_ _)); exact BK152.out) hkp (fun hs_ => (fun e_ => by simp [Value.ownBlock] at e_) hs_))
       have n1_ := Aside0.mk (Kd.zbh (ok' := fun k_ => some k_ ≠ (v154 : Value).ownBlock) (Kd.zgg (HO158.out) hkp (fun k_ hk_ hs_ => (fun e_ => by simp [Value.ownBlock] at e_) hs_)) (fun k_ hk_ => fun e_ => Or.elim (ho0.1 k_ e_.symm) (fun hs_ => hk_.2.1 hs_) (fun hn_ => Nat.not_le.2 hk_.2.2 hn_)))
       have n2_ := Aside0.mk (Kd.zbh (ok' := fun k_ => some k_ ≠ (v157 : Value).ownBlock) ho0 (fun k_ hk_ => Or.elim hk_ (fun hs_ => absurd hs_ (by simp [Value.ownBlock])) (fun hn_ => (Kd.fresh' (Kd.R_lt (by (with_reducible repeat (first | apply Kd.zbb | apply Kd.zba | apply Kd.zbf)); exact HO158.out)) k_ hn_))))
       have n3_ := Aside0.mk (hb)
       clear BK152
       clear HO158
       clear HB
       have BK152 := n0_
       have HO158 := n1_
       have HO155 := n2_
       have HB := n3_
       clear n0_ n1_ n2_ n3_
       (try clear hb)
       (try clear hkp)
       (try clear ho0)
       refine hK.out _ _ ⟨(zaa BK152.out 0).trans rfl, (zaa BK152.out 1).trans rfl, (zaa BK152.out 2).trans rfl, (zaa BK152.out 3).trans rfl, (zaa BK152.out 4).trans rfl, (zaa BK152.out 5).trans rfl, (zaa BK152.out 6).trans rfl, (zaa BK152.out 7).trans rfl, (zaa BK152.out 8).trans rfl, (zaa BK152.out 9).trans rfl, (zaa BK152.out 10).trans rfl, (zaa BK152.out 11).trans rfl, (zaa BK152.out 12).trans rfl, (zaa BK152.out 13).trans rfl⟩ (fun hHeld => ?_)
       clear hK K
       refine zdk (a' := ?_) ?_ ?_
       rotate_left
       ·show Act.put _ (some 9) _ = _
        simp only [Act.put, List.setIfInBounds_toArray, List.set_cons_zero, List.set_cons_succ, zbz, zcc]
        rfl
       exact zdk (by simp only [putAll, Act.put, List.setIfInBounds_toArray, List.set_cons_zero, List.set_cons_succ]) (hCont (v154, v157) _ ⟨hHeld, (by (with_reducible repeat (first | apply Kd.zbb | apply Kd.zba | apply Kd.zbf)); exact HO155.out), (by (with_reducible repeat (first | apply Kd.zbb | apply Kd.zba | apply Kd.zbf)); exact HO158.out), (by (with_reducible repeat (first | refine zag ?_ _ | refine zai ?_ | refine zaf ?_ _)); exact BK152.out), (by repeat (first | (with_reducible first | exact HB.out | apply zad | apply zac | apply zae | refine zah ?_ GE152.out) | exact HB.out))⟩)
     rintro ⟨v154, v157⟩ w73 ⟨hS_, h0_, h1_, h2_, h3_⟩
     have n0_ : Aside0 (Kd.R (Kd.int .u8) 5 w73 w.heap.size (fun k_ => some k_ ≠ (v157 : Value).ownBlock) v154 t153) := ⟨h0_⟩
     have n1_ : Aside0 (Kd.R (Kd.int .u8) 5 w73 w.heap.size (fun k_ => some k_ ≠ (v154 : Value).ownBlock) v157 y156) := ⟨h1_⟩
     have n2_ : Aside0 (w73.heap[gb152]? = some (.cells #[.int .i64 a0_0, .int .i64 a0_1, .int .i64 a0_2, .string a0_3, .string a0_4, .string a0_5, .string a0_6, .string a0_7, .string a0_8, .slice A0_9 l0_9.length c0_9, .int .i64 a0_10, .int .i64 a0_11, .int .i64 a0_12, .slice A0_13 l0_13.length c0_13] 38 (0, 0))) := ⟨h2_⟩
     have n3_ : Aside0 (Below w.heap.size w w73) := ⟨h3_⟩
     clear BK152
     clear HB
     clear h0_ h1_ h2_ h3_
     have HO155 := n0_
     have HO158 := n1_
     have BK152 := n2_
     have HB := n3_
     clear n0_ n1_ n2_ n3_
     have hHeld : w73.cell? ⟨gb152, 0, none⟩ = some (.int .i64 a0_0) ∧ w73.cell? ⟨gb152, 1, none⟩ = some (.int .i64 a0_1) ∧ w73.cell? ⟨gb152, 2, none⟩ = some (.int .i64 a0_2) ∧ w73.cell? ⟨gb152, 3, none⟩ = some (.string a0_3) ∧ w73.cell? ⟨gb152, 4, none⟩ = some (.string a0_4) ∧ w73.cell? ⟨gb152, 5, none⟩ = some (.string a0_5) ∧ w73.cell? ⟨gb152, 6, none⟩ = some (.string a0_6) ∧ w73.cell? ⟨gb152, 7, none⟩ = some (.string a0_7) ∧ w73.cell? ⟨gb152, 8, none⟩ = some (.string a0_8) ∧ w73.cell? ⟨gb152, 9, none⟩ = some (.slice A0_9 l0_9.length c0_9) ∧ w73.cell? ⟨gb152, 10, none⟩ = some (.int .i64 a0_10) ∧ w73.cell? ⟨gb152, 11, none⟩ = some (.int .i64 a0_11) ∧ w73.cell? ⟨gb152, 12, none⟩ = some (.int .i64 a0_12) ∧ w73.cell? ⟨gb152, 13, none⟩ = some (.slice A0_13 l0_13.length c0_13) := hS_
     obtain ⟨Ao75, co75, eo75⟩ := Kd.zbu HO158.out
     (first | subst eo75 | (injection eo75 with f1_ f2_ f3_; have f4_ := f1_.symm; have f5_ := f3_.symm; clear f1_ f2_ f3_; subst f4_; subst f5_))
     refine zdk (a' := ?_) ?_ ?_
     rotate_left
     ·simp only [putAll, Act.put, List.setIfInBounds_toArray, List.set_cons_zero, List.set_cons_succ]
      rfl
     refine one_ (i := 7) (N := some 14) #[true, true, true, true, true, true, true, true, false] rfl rfl (zei HT_.out (by kernel_rfl)) (by decide) (fun K hK => ?_)
     refine Kd.zda (Kd.int .u8) (w0 := w) w.heap.size (by rfl) (.tmp 9) (.tmp 13) 27 5 (.int .u8 0) 1 rfl Try.underlying27 info5 rfl (by decide) (by omega) v154 t153 y156 _ _ _ (fun k_ => some k_ ≠ (.slice Ao75 y156.length co75 : Value).ownBlock) (fun _ => False) rfl rfl ?aO ?aR (fun _ _ h => h) (fun _ h => h.elim) ?aF ?aB ?aS ?aL ?_
     (case aR => repeat (first | exact (Kd.zed HO158.out).2.2 | (with_reducible refine Kd.zev ?_ _) | (with_reducible refine Kd.zeu ?_ _) | (with_reducible refine Kd.zfw ?_)))
     (case aB => exact (by repeat (first | (with_reducible first | exact HB.out | apply zad | apply zac | apply zae | refine zah ?_ GE152.out) | exact HB.out)))
     (case aF => exact (fun k_ hk => Kd.fresh' (Kd.R_lt (by (with_reducible repeat (first | apply Kd.zbb | apply Kd.zba | apply Kd.zbf)); exact HO158.out)) k_ hk))
     (case aO => exact (by (with_reducible repeat (first | apply Kd.zbb | apply Kd.zba | apply Kd.zbf)); exact HO155.out))
     (case aS => exact (zaz (by repeat (first | (with_reducible first | exact HB.out | apply zad | apply zac | apply zae | refine zah ?_ GE152.out) | exact HB.out))))
     (case aL => have := LMc3.out; omega)
     intro v160 w74 ho hb hg hat
     rw [← Ny159.out] at ho
     have n0_ := Aside0.mk (zbm (g := gb152) (o := .cells #[.int .i64 a0_0, .int .i64 a0_1, .int .i64 a0_2, .string a0_3, .string a0_4, .string a0_5, .string a0_6, .string a0_7, .string a0_8, .slice A0_9 l0_9.length c0_9, .int .i64 a0_10, .int .i64 a0_11, .int .i64 a0_12, .slice A0_13 l0_13.length c0_13] 38 (0, 0)) (by (with_reducible repeat (first | refine zag ?_ _ | refine zai ?_ | refine zaf ?_ _)); exact BK152.out) hg (Kd.R_ne HO155.out BK152.out (by decide)))
     have n1_ := Aside0.mk (Kd.zfu (ok := (fun _ => True)) (by (with_reducible repeat (first | apply Kd.zbb | apply Kd.zba | apply Kd.zbf)); exact Kd.zbh HO158.out (fun _ hk => ⟨trivial, hk⟩)) hg hat)
     have n2_ := Aside0.mk (hb)
     have n3_ := Aside0.mk (ho)
     clear BK152
     clear HO158
     clear HB
     clear HO155
     have BK152 := n0_
     have HO158 := n1_
     have HB := n2_
     have HO161 := n3_
     clear n0_ n1_ n2_ n3_
     clear ho hb hg hat
     refine hK.out _ _ ⟨(zaa BK152.out 0).trans rfl, (zaa BK152.out 1).trans rfl, (zaa BK152.out 2).trans rfl, (zaa BK152.out 3).trans rfl, (zaa BK152.out 4).trans rfl, (zaa BK152.out 5).trans rfl, (zaa BK152.out 6).trans rfl, (zaa BK152.out 7).trans rfl, (zaa BK152.out 8).trans rfl, (zaa BK152.out 9).trans rfl, (zaa BK152.out 10).trans rfl, (zaa BK152.out 11).trans rfl, (zaa BK152.out 12).trans rfl, (zaa BK152.out 13).trans rfl⟩ (fun hHeld => ?_)
     clear hK K
     refine zdk (a' := ?_) ?_ ?_
     rotate_left
     ·show Act.put _ (some 14) _ = _
      simp only [Act.put, List.setIfInBounds_toArray, List.set_cons_zero, List.set_cons_succ, zbz, zcc]
      rfl
     refine zde (i := 8) (N := some 4) (v := ?_) (a' := ?_) #[true, true, true, true, true, true, true, true, true] rfl rfl (zcn HT_.out (by kernel_rfl)) (fun _ _ _ h => h) (Or.inl ⟨by rfl, ?_⟩) ?_ ?_
     rotate_left
     ·intro w'
      go_simp
      with_reducible rfl
     rotate_left
     ·simp only [Act.put, List.setIfInBounds_toArray, List.set_cons_zero, List.set_cons_succ, zbz, zcc]
      rfl
     refine zis (zgd HT_.out (by kernel_rfl)) ?_
     have hcz76_0 : w74.cell? ⟨gb152, 0, none⟩ = some (.int .i64 a0_0) := (zaa BK152.out 0).trans rfl
     have hcz76_1 : w74.cell? ⟨gb152, 1, none⟩ = some (.int .i64 a0_1) := (zaa BK152.out 1).trans rfl
     have hcz76_2 : w74.cell? ⟨gb152, 2, none⟩ = some (.int .i64 a0_2) := (zaa BK152.out 2).trans rfl
     have hcz76_3 : w74.cell? ⟨gb152, 3, none⟩ = some (.string a0_3) := (zaa BK152.out 3).trans rfl
     have hcz76_4 : w74.cell? ⟨gb152, 4, none⟩ = some (.string a0_4) := (zaa BK152.out 4).trans rfl
     have hcz76_5 : w74.cell? ⟨gb152, 5, none⟩ = some (.string a0_5) := (zaa BK152.out 5).trans rfl
     have hcz76_6 : w74.cell? ⟨gb152, 6, none⟩ = some (.string a0_6) := (zaa BK152.out 6).trans rfl
     have hcz76_7 : w74.cell? ⟨gb152, 7, none⟩ = some (.string a0_7) := (zaa BK152.out 7).trans rfl
     have hcz76_8 : w74.cell? ⟨gb152, 8, none⟩ = some (.string a0_8) := (zaa BK152.out 8).trans rfl
     have hcz76_9 : w74.cell? ⟨gb152, 9, none⟩ = some (.slice A0_9 l0_9.length c0_9) := (zaa BK152.out 9).trans rfl
     have hcz76_10 : w74.cell? ⟨gb152, 10, none⟩ = some (.int .i64 a0_10) := (zaa BK152.out 10).trans rfl
     have hcz76_11 : w74.cell? ⟨gb152, 11, none⟩ = some (.int .i64 a0_11) := (zaa BK152.out 11).trans rfl
     have hcz76_12 : w74.cell? ⟨gb152, 12, none⟩ = some (.int .i64 a0_12) := (zaa BK152.out 12).trans rfl
     have hcz76_13 : w74.cell? ⟨gb152, 13, none⟩ = some (.slice A0_13 l0_13.length c0_13) := (zaa BK152.out 13).trans rfl
     have hfz76_0 := zab BK152.out 0
     have hfz76_1 := zab BK152.out 1
     have hfz76_2 := zab BK152.out 2
     have hfz76_3 := zab BK152.out 3
     have hfz76_4 := zab BK152.out 4
     have hfz76_5 := zab BK152.out 5
     have hfz76_6 := zab BK152.out 6
     have hfz76_7 := zab BK152.out 7
     have hfz76_8 := zab BK152.out 8
     have hfz76_9 := zab BK152.out 9
     have hfz76_10 := zab BK152.out 10
     have hfz76_11 := zab BK152.out 11
     have hfz76_12 := zab BK152.out 12
     have hfz76_13 := zab BK152.out 13
     try go_wp2
     go_ret2
     exact ⟨_, by first | rfl | (simp [zay, zax] <;> rfl) | (simp [*, zay, zax] <;> rfl), by first | exact Kd.zdf _ _ _ _ _ | exact Kd.zjm _ _ _ _ _ | exact Kd.zji _ _ _ _ _ | exact Kd.zjl _ _ _ _ _ | exact Kd.zjj _ _ _ _ _, by repeat (first | (with_reducible first | exact HB.out | apply zad | apply zac | apply zae | refine zah ?_ GE152.out) | exact HB.out)⟩
 ·rw [if_neg c3] at H
  exact absurd H (by simp)
end Go.Proofs.Ytjhcbggpbfejgaa.XMsgPuts
