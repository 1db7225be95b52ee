-- written by wip/xprint.py: the kit's print with functions walked by hand
import Derived.Test.YtjhcbggpbfejgaaXCodecGetsx0
import Derived.Test.YtjhcbggpbfejgaaXCodecGetsx1
import Derived.Test.YtjhcbggpbfejgaaXCodecGetsx2
namespace Go.Proofs.Ytjhcbggpbfejgaa.XCodecGets
open Go.RowKit Go.Proofs.zjt.zjq Go.Proofs.zjt.zjr Go.Proofs.zjt.zjs
attribute [local go_sem] zes zeq zfi zfh zdy zdx zer zep   -- for this text's walks alone
set_option linter.unusedVariables false
set_option linter.unusedSimpArgs false
mutual
def zaw.j0 : Nat → Int → List Int → Int → Bool → Bool → Int → Int → Int → ByteArray → ByteArray → ByteArray → ByteArray → ByteArray → ByteArray → List ByteArray → Int → Int → Int → Option (Int × Int × Int × ByteArray × ByteArray × ByteArray × ByteArray × ByteArray × ByteArray × List ByteArray × Int × Int × Int × List Int × Int × Bool × Bool)
 | 0, _, _, _, _, _, _, _, _, _, _, _, _, _, _, _, _, _, _ => none
 | k + 1, x4, x1000, x1001, x1002, x1003, x216000, x216001, x216002, x216003, x216004, x216005, x216006, x216007, x216008, x216009, x216010, x216011, x216012 => if x4 = 2 then ((zbj.f k x1000 x1001 x1002 x1003).bind fun bt240 => (zaw.l0 k bt240.1 0 x1000 bt240.2.1 bt240.2.2.1 bt240.2.2.2 x216000 x216001 x216002 x216003 x216004 x216005 x216006 x216007 x216008 x216009 x216010 x216011 x216012 ([] : List Int))) else (some (x216000, x216001, x216002, x216003, x216004, x216005, x216006, x216007, x216008, x216009, x216010, x216011, x216012, ([] : List Int), x1001, x1002, x1003))
def zaw.l0 : Nat → Int → Int → List Int → Int → Bool → Bool → Int → Int → Int → ByteArray → ByteArray → ByteArray → ByteArray → ByteArray → ByteArray → List ByteArray → Int → Int → Int → List Int → Option (Int × Int × Int × ByteArray × ByteArray × ByteArray × ByteArray × ByteArray × ByteArray × List ByteArray × Int × Int × Int × List Int × Int × Bool × Bool)
 | 0, _, _, _, _, _, _, _, _, _, _, _, _, _, _, _, _, _, _, _, _ => none
 | k + 1, x5, x6, x1000, x1001, x1002, x1003, x216000, x216001, x216002, x216003, x216004, x216005, x216006, x216007, x216008, x216009, x216010, x216011, x216012, x216013 => if x6 < x5 then (if x1002 = true then (some (x216000, x216001, x216002, x216003, x216004, x216005, x216006, x216007, x216008, x216009, x216010, x216011, x216012, x216013, x1001, x1002, x1003)) else ((zaj.f k x1000 x1001 x1002 x1003).bind fun bt244 => (if x216013.length < 17592186044416 then (zaw.l0 k x5 (wrap64 (x6 + 1)) x1000 bt244.2.1 bt244.2.2.1 bt244.2.2.2 x216000 x216001 x216002 x216003 x216004 x216005 x216006 x216007 x216008 x216009 x216010 x216011 x216012 (x216013 ++ [wrap64 (bt244.1)])) else (none)))) else (some (x216000, x216001, x216002, x216003, x216004, x216005, x216006, x216007, x216008, x216009, x216010, x216011, x216012, x216013, x1001, x1002, x1003))
end
def zaw.f (k : Nat) (s0_0 : List Int) (s0_1 : Int) (s0_2 : Bool) (s0_3 : Bool) : Option (Int × Int × Int × ByteArray × ByteArray × ByteArray × ByteArray × ByteArray × ByteArray × List ByteArray × Int × Int × Int × List Int × Int × Bool × Bool) := (zaj.f k s0_0 s0_1 s0_2 s0_3).bind fun bt216 => ((zbs.f s0_0 bt216.2.1 bt216.2.2.1 bt216.2.2.2 3).bind fun bt220 => (if bt220.1 = 1 then ((zat.f k s0_0 bt220.2.1 bt220.2.2.1 bt220.2.2.2).bind fun bt224 => (zaw.j0 k bt220.1 s0_0 bt224.2.2.2.2.2.2.2.2.2.2.2.1 bt224.2.2.2.2.2.2.2.2.2.2.2.2.1 bt224.2.2.2.2.2.2.2.2.2.2.2.2.2 (wrap64 (bt216.1)) (wrap64 (bt220.1)) bt224.1 bt224.2.1 bt224.2.2.1 bt224.2.2.2.1 bt224.2.2.2.2.1 bt224.2.2.2.2.2.1 bt224.2.2.2.2.2.2.1 bt224.2.2.2.2.2.2.2.1 bt224.2.2.2.2.2.2.2.2.1 bt224.2.2.2.2.2.2.2.2.2.1 bt224.2.2.2.2.2.2.2.2.2.2.1)) else (zaw.j0 k bt220.1 s0_0 bt220.2.1 bt220.2.2.1 bt220.2.2.2 (wrap64 (bt216.1)) (wrap64 (bt220.1)) 0 (⟨#[]⟩ : ByteArray) (⟨#[]⟩ : ByteArray) (⟨#[]⟩ : ByteArray) (⟨#[]⟩ : ByteArray) (⟨#[]⟩ : ByteArray) (⟨#[]⟩ : ByteArray) ([] : List ByteArray) 0 0 0)))
set_option maxHeartbeats 8000000 in
set_option maxRecDepth 100000 in
theorem zaw.calls (k : Nat) {As0 : Option Addr} {cs0 : Nat} (g : Nat) (s0_0 : List Int) (s0_1 : Int) (s0_2 : Bool) (s0_3 : Bool) (r1 : Int) (r2 : Int) (r3 : Int) (r4 : ByteArray) (r5 : ByteArray) (r6 : ByteArray) (r7 : ByteArray) (r8 : ByteArray) (r9 : ByteArray) (r10 : List ByteArray) (r11 : Int) (r12 : Int) (r13 : Int) (r14 : List Int) (r15 : Int) (r16 : Bool) (r17 : Bool) (w0 w : World) (hI : IsS50 As0 cs0 w0 w g s0_0 s0_1 s0_2 s0_3) (hB : Below w0.heap.size w0 w) (h : zaw.f k s0_0 s0_1 s0_2 s0_3 = some (r1, r2, r3, r4, r5, r6, r7, r8, r9, r10, r11, r12, r13, r14, r15, r16, r17)) :
  Calls Try.prog 19 #[.pointer (some ⟨g, 0, none⟩)] w fun e w' => ∃ v9_ v13_ : Value, e = .returned (.agg #[.int .i64 r1, .int .i64 r2, .int .i64 r3, .string r4, .string r5, .string r6, .string r7, .string r8, .string r9, v9_, .int .i64 r11, .int .i64 r12, .int .i64 r13, v13_]) ∧ Kd.R Kd.string 9 w' w.heap.size (fun _ => True) v9_ r10 ∧ Kd.R (Kd.int .i64) 3 w' w.heap.size (fun _ => True) v13_ r14 ∧ IsS50 As0 cs0 w0 w' g s0_0 r15 r16 r17 ∧ Below w0.heap.size w0 w' ∧ KeepBut w w' g none := by
 have hu38 := Try.underlying38
 have hu25 := Try.underlying25
 have HI0 := Aside0.mk hI
 have HK := Aside0.mk (KeepBut.refl w g none)
 have HL := Aside0.mk hB.size
 clear hI
 have HW0 := Aside0.mk hB.size
 have HB := Aside0.mk hB
 clear hB
 have H : ((zaj.f k s0_0 s0_1 s0_2 s0_3).bind fun bt216 => ((zbs.f s0_0 bt216.2.1 bt216.2.2.1 bt216.2.2.2 3).bind fun bt220 => (if bt220.1 = 1 then ((zat.f k s0_0 bt220.2.1 bt220.2.2.1 bt220.2.2.2).bind fun bt224 => (zaw.j0 k bt220.1 s0_0 bt224.2.2.2.2.2.2.2.2.2.2.2.1 bt224.2.2.2.2.2.2.2.2.2.2.2.2.1 bt224.2.2.2.2.2.2.2.2.2.2.2.2.2 (wrap64 (bt216.1)) (wrap64 (bt220.1)) bt224.1 bt224.2.1 bt224.2.2.1 bt224.2.2.2.1 bt224.2.2.2.2.1 bt224.2.2.2.2.2.1 bt224.2.2.2.2.2.2.1 bt224.2.2.2.2.2.2.2.1 bt224.2.2.2.2.2.2.2.2.1 bt224.2.2.2.2.2.2.2.2.2.1 bt224.2.2.2.2.2.2.2.2.2.2.1)) else (zaw.j0 k bt220.1 s0_0 bt220.2.1 bt220.2.2.1 bt220.2.2.2 (wrap64 (bt216.1)) (wrap64 (bt220.1)) 0 (⟨#[]⟩ : ByteArray) (⟨#[]⟩ : ByteArray) (⟨#[]⟩ : ByteArray) (⟨#[]⟩ : ByteArray) (⟨#[]⟩ : ByteArray) (⟨#[]⟩ : ByteArray) ([] : List ByteArray) 0 0 0)))) = some (r1, r2, r3, r4, r5, r6, r7, r8, r9, r10, r11, r12, r13, r14, r15, r16, r17) := h
 clear h
 replace H := Option.bind_eq_some_iff.mp H
 obtain ⟨⟨t216, t217, t218, t219⟩, A20, H⟩ := H
 replace H : ((zbs.f s0_0 t217 t218 t219 3).bind fun bt220 => (if bt220.1 = 1 then ((zat.f k s0_0 bt220.2.1 bt220.2.2.1 bt220.2.2.2).bind fun bt224 => (zaw.j0 k bt220.1 s0_0 bt224.2.2.2.2.2.2.2.2.2.2.2.1 bt224.2.2.2.2.2.2.2.2.2.2.2.2.1 bt224.2.2.2.2.2.2.2.2.2.2.2.2.2 (wrap64 (t216)) (wrap64 (bt220.1)) bt224.1 bt224.2.1 bt224.2.2.1 bt224.2.2.2.1 bt224.2.2.2.2.1 bt224.2.2.2.2.2.1 bt224.2.2.2.2.2.2.1 bt224.2.2.2.2.2.2.2.1 bt224.2.2.2.2.2.2.2.2.1 bt224.2.2.2.2.2.2.2.2.2.1 bt224.2.2.2.2.2.2.2.2.2.2.1)) else (zaw.j0 k bt220.1 s0_0 bt220.2.1 bt220.2.2.1 bt220.2.2.2 (wrap64 (t216)) (wrap64 (bt220.1)) 0 (⟨#[]⟩ : ByteArray) (⟨#[]⟩ : ByteArray) (⟨#[]⟩ : ByteArray) (⟨#[]⟩ : ByteArray) (⟨#[]⟩ : ByteArray) (⟨#[]⟩ : ByteArray) ([] : List ByteArray) 0 0 0))) = some (r1, r2, r3, r4, r5, r6, r7, r8, r9, r10, r11, r12, r13, r14, r15, r16, r17) := H
 have A2 := Aside0.mk A20
 clear A20
 replace H := Option.bind_eq_some_iff.mp H
 obtain ⟨⟨t220, t221, t222, t223⟩, A30, H⟩ := H
 replace H : (if t220 = 1 then ((zat.f k s0_0 t221 t222 t223).bind fun bt224 => (zaw.j0 k t220 s0_0 bt224.2.2.2.2.2.2.2.2.2.2.2.1 bt224.2.2.2.2.2.2.2.2.2.2.2.2.1 bt224.2.2.2.2.2.2.2.2.2.2.2.2.2 (wrap64 (t216)) (wrap64 (t220)) bt224.1 bt224.2.1 bt224.2.2.1 bt224.2.2.2.1 bt224.2.2.2.2.1 bt224.2.2.2.2.2.1 bt224.2.2.2.2.2.2.1 bt224.2.2.2.2.2.2.2.1 bt224.2.2.2.2.2.2.2.2.1 bt224.2.2.2.2.2.2.2.2.2.1 bt224.2.2.2.2.2.2.2.2.2.2.1)) else (zaw.j0 k t220 s0_0 t221 t222 t223 (wrap64 (t216)) (wrap64 (t220)) 0 (⟨#[]⟩ : ByteArray) (⟨#[]⟩ : ByteArray) (⟨#[]⟩ : ByteArray) (⟨#[]⟩ : ByteArray) (⟨#[]⟩ : ByteArray) (⟨#[]⟩ : ByteArray) ([] : List ByteArray) 0 0 0)) = some (r1, r2, r3, r4, r5, r6, r7, r8, r9, r10, r11, r12, r13, r14, r15, r16, r17) := H
 have A3 := Aside0.mk A30
 clear A30
 have HC4 := Aside0.mk H
 clear H
 go_enter Try.func19, Try.ntmps19
 go_upto_if 18 with (first | ((with_reducible refine zcr (N := 2) rfl ?_); refine zcm ?hg (N := 2) ?hd (cs := #[.int .i64 0, .int .i64 0, .int .i64 0, .string ⟨#[]⟩, .string ⟨#[]⟩, .string ⟨#[]⟩, .string ⟨#[]⟩, .string ⟨#[]⟩, .string ⟨#[]⟩, .slice none 0 0, .int .i64 0, .int .i64 0, .int .i64 0, .slice none 0 0]) (t := 38) ?hr ?_; (case hd => rfl); (case hg => rfl); (case hr => first | (go_simp; done) | (go_simp; rfl)); intro gb214 hg w5 hbox hb; have n0_ := Aside0.mk (IsS50.below (by repeat (first | (with_reducible first | exact HI0.out | apply IsS50.alloc | apply IsS50.drewN | apply IsS50.drew | apply IsS50.zbx | apply IsS50.zbv | apply IsS50.zch) | exact HI0.out)) hb); have n1_ := Aside0.mk (KeepBut.trans (by repeat (first | (with_reducible first | exact HK.out | apply KeepBut.set_ | apply zas | apply zav | apply zar) | exact HK.out)) (KeepBut.of_below hb g none) (.inl rfl)); have n2_ := Aside0.mk (zbl (by repeat (first | (with_reducible first | exact HB.out | apply zad | apply zac | apply zae | refine zah ?_ (IsS50.ge HI0.out)) | exact HB.out)) hb); have n3_ := Aside0.mk (hbox); have n4_ := Aside0.mk ((by rw [hg]; exact (zdt (w := w) (g := g) (row := none) (by repeat (first | (with_reducible first | exact HK.out | apply KeepBut.set_ | apply zas | apply zav | apply zar) | exact HK.out))) : w.heap.size ≤ gb214)); have n5_ := Aside0.mk ((Nat.le_trans HW0.out (by rw [hg]; exact (zdt (w := w) (g := g) (row := none) (by repeat (first | (with_reducible first | exact HK.out | apply KeepBut.set_ | apply zas | apply zav | apply zar) | exact HK.out))) : w.heap.size ≤ gb214) : w0.heap.size ≤ gb214)); have n6_ := Aside0.mk ((by rw [hg]; exact Nat.ne_of_lt (IsS50.lt (show IsS50 As0 cs0 w0 _ g s0_0 s0_1 s0_2 s0_3 from by repeat (first | (with_reducible first | exact HI0.out | apply IsS50.alloc | apply IsS50.drewN | apply IsS50.drew | apply IsS50.zbx | apply IsS50.zbv | apply IsS50.zch) | exact HI0.out))) : g ≠ gb214)); have n7_ := Aside0.mk ((by rw [hg]; exact Nat.ne_of_gt (IsS50.lt (show IsS50 As0 cs0 w0 _ g s0_0 s0_1 s0_2 s0_3 from by repeat (first | (with_reducible first | exact HI0.out | apply IsS50.alloc | apply IsS50.drewN | apply IsS50.drew | apply IsS50.zbx | apply IsS50.zbv | apply IsS50.zch) | exact HI0.out))) : gb214 ≠ g)); clear HI0; clear HK; clear HB; have HI0 := n0_; have HK := n1_; have HB := n2_; have BK214 := n3_; have GW214 := n4_; have GE214 := n5_; have NB0_214 := n6_; have NB214_0 := n7_; clear n0_ n1_ n2_ n3_ n4_ n5_ n6_ n7_; clear hb hbox hg) | ((with_reducible refine zcr (N := 3) rfl ?_); refine zcm ?hg (N := 3) ?hd (cs := #[.int .i64 0, .int .i64 0, .int .i64 0, .string ⟨#[]⟩, .string ⟨#[]⟩, .string ⟨#[]⟩, .string ⟨#[]⟩, .string ⟨#[]⟩, .string ⟨#[]⟩, .slice none 0 0, .int .i64 0, .int .i64 0, .int .i64 0, .slice none 0 0]) (t := 38) ?hr ?_; (case hd => rfl); (case hg => rfl); (case hr => first | (go_simp; done) | (go_simp; rfl)); intro gb215 hg w6 hbox hb; have n0_ := Aside0.mk (IsS50.below (by repeat (first | (with_reducible first | exact HI0.out | apply IsS50.alloc | apply IsS50.drewN | apply IsS50.drew | apply IsS50.zbx | apply IsS50.zbv | apply IsS50.zch | refine IsS50.far ?_ NB0_214.out _) | exact HI0.out)) hb); have n1_ := Aside0.mk (zbn (g := gb214) (o := .cells #[.int .i64 0, .int .i64 0, .int .i64 0, .string ⟨#[]⟩, .string ⟨#[]⟩, .string ⟨#[]⟩, .string ⟨#[]⟩, .string ⟨#[]⟩, .string ⟨#[]⟩, .slice none 0 0, .int .i64 0, .int .i64 0, .int .i64 0, .slice none 0 0] 38 (0, 0)) (by (with_reducible repeat (first | refine zag ?_ _ | refine zai ?_ | refine zaf ?_ _)); exact BK214.out) hb); have n2_ := Aside0.mk (KeepBut.trans (by repeat (first | (with_reducible first | exact HK.out | apply KeepBut.set_ | apply zas | apply zav | apply zar | refine zbg ?_ GW214.out _) | exact HK.out)) (KeepBut.of_below hb g none) (.inl rfl)); have n3_ := Aside0.mk (zbl (by repeat (first | (with_reducible first | exact HB.out | apply zad | apply zac | apply zae | refine zah ?_ (IsS50.ge HI0.out) | refine zah ?_ GE214.out) | exact HB.out)) hb); have n4_ := Aside0.mk (hbox); have n5_ := Aside0.mk ((by rw [hg]; exact (zdt (w := w) (g := g) (row := none) (by repeat (first | (with_reducible first | exact HK.out | apply KeepBut.set_ | apply zas | apply zav | apply zar | refine zbg ?_ GW214.out _) | exact HK.out))) : w.heap.size ≤ gb215)); have n6_ := Aside0.mk ((Nat.le_trans HW0.out (by rw [hg]; exact (zdt (w := w) (g := g) (row := none) (by repeat (first | (with_reducible first | exact HK.out | apply KeepBut.set_ | apply zas | apply zav | apply zar | refine zbg ?_ GW214.out _) | exact HK.out))) : w.heap.size ≤ gb215) : w0.heap.size ≤ gb215)); have n7_ := Aside0.mk ((by rw [hg]; exact Nat.ne_of_lt (zdp (g := gb214) (o := .cells #[.int .i64 0, .int .i64 0, .int .i64 0, .string ⟨#[]⟩, .string ⟨#[]⟩, .string ⟨#[]⟩, .string ⟨#[]⟩, .string ⟨#[]⟩, .string ⟨#[]⟩, .slice none 0 0, .int .i64 0, .int .i64 0, .int .i64 0, .slice none 0 0] 38 (0, 0)) (by (with_reducible repeat (first | refine zag ?_ _ | refine zai ?_ | refine zaf ?_ _)); exact BK214.out)) : gb214 ≠ gb215)); have n8_ := Aside0.mk ((by rw [hg]; exact Nat.ne_of_gt (zdp (g := gb214) (o := .cells #[.int .i64 0, .int .i64 0, .int .i64 0, .string ⟨#[]⟩, .string ⟨#[]⟩, .string ⟨#[]⟩, .string ⟨#[]⟩, .string ⟨#[]⟩, .string ⟨#[]⟩, .slice none 0 0, .int .i64 0, .int .i64 0, .int .i64 0, .slice none 0 0] 38 (0, 0)) (by (with_reducible repeat (first | refine zag ?_ _ | refine zai ?_ | refine zaf ?_ _)); exact BK214.out)) : gb215 ≠ gb214)); have n9_ := Aside0.mk ((by rw [hg]; exact Nat.ne_of_lt (IsS50.lt (show IsS50 As0 cs0 w0 _ g s0_0 s0_1 s0_2 s0_3 from by repeat (first | (with_reducible first | exact HI0.out | apply IsS50.alloc | apply IsS50.drewN | apply IsS50.drew | apply IsS50.zbx | apply IsS50.zbv | apply IsS50.zch | refine IsS50.far ?_ NB0_214.out _) | exact HI0.out))) : g ≠ gb215)); have n10_ := Aside0.mk ((by rw [hg]; exact Nat.ne_of_gt (IsS50.lt (show IsS50 As0 cs0 w0 _ g s0_0 s0_1 s0_2 s0_3 from by repeat (first | (with_reducible first | exact HI0.out | apply IsS50.alloc | apply IsS50.drewN | apply IsS50.drew | apply IsS50.zbx | apply IsS50.zbv | apply IsS50.zch | refine IsS50.far ?_ NB0_214.out _) | exact HI0.out))) : gb215 ≠ g)); clear HI0; clear BK214; clear HK; clear HB; have HI0 := n0_; have BK214 := n1_; have HK := n2_; have HB := n3_; have BK215 := n4_; have GW215 := n5_; have GE215 := n6_; have NB214_215 := n7_; have NB215_214 := n8_; have NB0_215 := n9_; have NB215_0 := n10_; clear n0_ n1_ n2_ n3_ n4_ n5_ n6_ n7_ n8_ n9_ n10_; clear hb hbox hg) | ((with_reducible refine zbe (f := 44) rfl ?_); refine zcg (some 9) rfl rfl Try.func44 (by kernel_rfl) rfl #[.pointer (some ⟨g, 0, none⟩)] rfl (by (try simp only [List.map_toArray, List.map_cons, List.map_nil]); first | done | rfl | (simp only [List.length_drop, List.length_take]; rfl)) ?_; (with_reducible refine (zaj.calls k (As0 := As0) (cs0 := cs0) g s0_0 s0_1 s0_2 s0_3 t216 t217 t218 t219 w0 _ ?side1 ?side2 A2.out).mono ?_); (case side1 => repeat (first | (with_reducible first | exact HI0.out | apply IsS50.alloc | apply IsS50.drewN | apply IsS50.drew | apply IsS50.zbx | apply IsS50.zbv | apply IsS50.zch | refine IsS50.far ?_ NB0_214.out _ | refine IsS50.far ?_ NB0_215.out _) | exact HI0.out)); (case side2 => repeat (first | (with_reducible first | exact HB.out | apply zad | apply zac | apply zae | refine zah ?_ (IsS50.ge HI0.out) | refine zah ?_ GE214.out | refine zah ?_ GE215.out) | exact HB.out)); rintro e w7 ⟨rfl, hi, hb, hk⟩; refine ⟨_, rfl, ?_⟩; have n0_ := Aside0.mk (KeepBut.blk hk (g' := gb214) (o := .cells #[.int .i64 0, .int .i64 0, .int .i64 0, .string ⟨#[]⟩, .string ⟨#[]⟩, .string ⟨#[]⟩, .string ⟨#[]⟩, .string ⟨#[]⟩, .string ⟨#[]⟩, .slice none 0 0, .int .i64 0, .int .i64 0, .int .i64 0, .slice none 0 0] 38 (0, 0)) (by (with_reducible repeat (first | refine zag ?_ _ | refine zai ?_ | refine zaf ?_ _)); exact BK214.out) NB214_0.out (by simp)); have n1_ := Aside0.mk (KeepBut.blk hk (g' := gb215) (o := .cells #[.int .i64 0, .int .i64 0, .int .i64 0, .string ⟨#[]⟩, .string ⟨#[]⟩, .string ⟨#[]⟩, .string ⟨#[]⟩, .string ⟨#[]⟩, .string ⟨#[]⟩, .slice none 0 0, .int .i64 0, .int .i64 0, .int .i64 0, .slice none 0 0] 38 (0, 0)) (by (with_reducible repeat (first | refine zag ?_ _ | refine zai ?_ | refine zaf ?_ _)); exact BK215.out) NB215_0.out (by simp)); have n2_ := Aside0.mk (KeepBut.trans (by repeat (first | (with_reducible first | exact HK.out | apply KeepBut.set_ | apply zas | apply zav | apply zar | refine zbg ?_ GW214.out _ | refine zbg ?_ GW215.out _) | exact HK.out)) hk (.inl rfl)); have n3_ := Aside0.mk (hb); have n4_ := Aside0.mk (hi); clear BK214; clear BK215; clear HK; clear HB; clear HI0; have BK214 := n0_; have BK215 := n1_; have HK := n2_; have HB := n3_; have HI0 := n4_; clear n0_ n1_ n2_ n3_ n4_; (try clear hb); (try clear hb2); (try clear hk); (try clear hi); have hnb8 := NB215_214.out; have hnc8 := NB214_215.out; have hnb9 := NB215_0.out; have hnc9 := NB0_215.out; have hcz10_0 : w7.cell? ⟨gb215, 0, none⟩ = some (.int .i64 0) := (zaa BK215.out 0).trans rfl; have hcz10_1 : w7.cell? ⟨gb215, 1, none⟩ = some (.int .i64 0) := (zaa BK215.out 1).trans rfl; have hcz10_2 : w7.cell? ⟨gb215, 2, none⟩ = some (.int .i64 0) := (zaa BK215.out 2).trans rfl; have hcz10_3 : w7.cell? ⟨gb215, 3, none⟩ = some (.string ⟨#[]⟩) := (zaa BK215.out 3).trans rfl; have hcz10_4 : w7.cell? ⟨gb215, 4, none⟩ = some (.string ⟨#[]⟩) := (zaa BK215.out 4).trans rfl; have hcz10_5 : w7.cell? ⟨gb215, 5, none⟩ = some (.string ⟨#[]⟩) := (zaa BK215.out 5).trans rfl; have hcz10_6 : w7.cell? ⟨gb215, 6, none⟩ = some (.string ⟨#[]⟩) := (zaa BK215.out 6).trans rfl; have hcz10_7 : w7.cell? ⟨gb215, 7, none⟩ = some (.string ⟨#[]⟩) := (zaa BK215.out 7).trans rfl; have hcz10_8 : w7.cell? ⟨gb215, 8, none⟩ = some (.string ⟨#[]⟩) := (zaa BK215.out 8).trans rfl; have hcz10_9 : w7.cell? ⟨gb215, 9, none⟩ = some (.slice none 0 0) := (zaa BK215.out 9).trans rfl; have hcz10_10 : w7.cell? ⟨gb215, 10, none⟩ = some (.int .i64 0) := (zaa BK215.out 10).trans rfl; have hcz10_11 : w7.cell? ⟨gb215, 11, none⟩ = some (.int .i64 0) := (zaa BK215.out 11).trans rfl; have hcz10_12 : w7.cell? ⟨gb215, 12, none⟩ = some (.int .i64 0) := (zaa BK215.out 12).trans rfl; have hcz10_13 : w7.cell? ⟨gb215, 13, none⟩ = some (.slice none 0 0) := (zaa BK215.out 13).trans rfl; have hfz10_0 := zab BK215.out 0; have hfz10_1 := zab BK215.out 1; have hfz10_2 := zab BK215.out 2; have hfz10_3 := zab BK215.out 3; have hfz10_4 := zab BK215.out 4; have hfz10_5 := zab BK215.out 5; have hfz10_6 := zab BK215.out 6; have hfz10_7 := zab BK215.out 7; have hfz10_8 := zab BK215.out 8; have hfz10_9 := zab BK215.out 9; have hfz10_10 := zab BK215.out 10; have hfz10_11 := zab BK215.out 11; have hfz10_12 := zab BK215.out 12; have hfz10_13 := zab BK215.out 13) | ((with_reducible refine zbe (f := 47) rfl ?_); refine zcg (some 13) rfl rfl Try.func47 (by kernel_rfl) rfl #[.pointer (some ⟨g, 0, none⟩), .int .u8 3] rfl (by (try simp only [List.map_toArray, List.map_cons, List.map_nil]); first | done | rfl | (simp only [List.length_drop, List.length_take]; rfl)) ?_; (with_reducible refine (zbs.calls (As0 := As0) (cs0 := cs0) g s0_0 t217 t218 t219 3 t220 t221 t222 t223 w0 _ ?side1 ?side2 A3.out).mono ?_); (case side1 => repeat (first | (with_reducible first | exact HI0.out | apply IsS50.alloc | apply IsS50.drewN | apply IsS50.drew | apply IsS50.zbx | apply IsS50.zbv | apply IsS50.zch | refine IsS50.far ?_ NB0_214.out _ | refine IsS50.far ?_ NB0_215.out _) | exact HI0.out)); (case side2 => repeat (first | (with_reducible first | exact HB.out | apply zad | apply zac | apply zae | refine zah ?_ (IsS50.ge HI0.out) | refine zah ?_ GE214.out | refine zah ?_ GE215.out) | exact HB.out)); rintro e w11 ⟨rfl, hi, hb, hk⟩; refine ⟨_, rfl, ?_⟩; have n0_ := Aside0.mk (KeepBut.blk hk (g' := gb214) (o := .cells #[.int .i64 0, .int .i64 0, .int .i64 0, .string ⟨#[]⟩, .string ⟨#[]⟩, .string ⟨#[]⟩, .string ⟨#[]⟩, .string ⟨#[]⟩, .string ⟨#[]⟩, .slice none 0 0, .int .i64 0, .int .i64 0, .int .i64 0, .slice none 0 0] 38 (0, 0)) (by (with_reducible repeat (first | refine zag ?_ _ | refine zai ?_ | refine zaf ?_ _)); refine zbi ?_ NB214_215.out _; (with_reducible repeat (first | refine zag ?_ _ | refine zai ?_ | refine zaf ?_ _)); exact BK214.out) NB214_0.out (by simp)); have n1_ := Aside0.mk (KeepBut.blk hk (g' := gb215) (o := .cells #[.int .i64 (wrap64 (t216)), .int .i64 0, .int .i64 0, .string ⟨#[]⟩, .string ⟨#[]⟩, .string ⟨#[]⟩, .string ⟨#[]⟩, .string ⟨#[]⟩, .string ⟨#[]⟩, .slice none 0 0, .int .i64 0, .int .i64 0, .int .i64 0, .slice none 0 0] 38 (0, 0)) (by (with_reducible repeat (first | refine zag ?_ _ | refine zai ?_ | refine zaf ?_ _)); refine zbd (cs := #[.int .i64 0, .int .i64 0, .int .i64 0, .string ⟨#[]⟩, .string ⟨#[]⟩, .string ⟨#[]⟩, .string ⟨#[]⟩, .string ⟨#[]⟩, .string ⟨#[]⟩, .slice none 0 0, .int .i64 0, .int .i64 0, .int .i64 0, .slice none 0 0]) ?_ 0 _ rfl; (with_reducible repeat (first | refine zag ?_ _ | refine zai ?_ | refine zaf ?_ _)); exact BK215.out) NB215_0.out (by simp)); have n2_ := Aside0.mk (KeepBut.trans (by repeat (first | (with_reducible first | exact HK.out | apply KeepBut.set_ | apply zas | apply zav | apply zar | refine zbg ?_ GW214.out _ | refine zbg ?_ GW215.out _) | exact HK.out)) hk (.inl rfl)); have n3_ := Aside0.mk (hb); have n4_ := Aside0.mk (hi); clear BK214; clear BK215; clear HK; clear HB; clear HI0; have BK214 := n0_; have BK215 := n1_; have HK := n2_; have HB := n3_; have HI0 := n4_; clear n0_ n1_ n2_ n3_ n4_; (try clear hb); (try clear hb2); (try clear hk); (try clear hi); have hcz12_0 : w11.cell? ⟨gb215, 0, none⟩ = some (.int .i64 (wrap64 (t216))) := (zaa BK215.out 0).trans rfl; have hcz12_1 : w11.cell? ⟨gb215, 1, none⟩ = some (.int .i64 0) := (zaa BK215.out 1).trans rfl; have hcz12_2 : w11.cell? ⟨gb215, 2, none⟩ = some (.int .i64 0) := (zaa BK215.out 2).trans rfl; have hcz12_3 : w11.cell? ⟨gb215, 3, none⟩ = some (.string ⟨#[]⟩) := (zaa BK215.out 3).trans rfl; have hcz12_4 : w11.cell? ⟨gb215, 4, none⟩ = some (.string ⟨#[]⟩) := (zaa BK215.out 4).trans rfl; have hcz12_5 : w11.cell? ⟨gb215, 5, none⟩ = some (.string ⟨#[]⟩) := (zaa BK215.out 5).trans rfl; have hcz12_6 : w11.cell? ⟨gb215, 6, none⟩ = some (.string ⟨#[]⟩) := (zaa BK215.out 6).trans rfl; have hcz12_7 : w11.cell? ⟨gb215, 7, none⟩ = some (.string ⟨#[]⟩) := (zaa BK215.out 7).trans rfl; have hcz12_8 : w11.cell? ⟨gb215, 8, none⟩ = some (.string ⟨#[]⟩) := (zaa BK215.out 8).trans rfl; have hcz12_9 : w11.cell? ⟨gb215, 9, none⟩ = some (.slice none 0 0) := (zaa BK215.out 9).trans rfl; have hcz12_10 : w11.cell? ⟨gb215, 10, none⟩ = some (.int .i64 0) := (zaa BK215.out 10).trans rfl; have hcz12_11 : w11.cell? ⟨gb215, 11, none⟩ = some (.int .i64 0) := (zaa BK215.out 11).trans rfl; have hcz12_12 : w11.cell? ⟨gb215, 12, none⟩ = some (.int .i64 0) := (zaa BK215.out 12).trans rfl; have hcz12_13 : w11.cell? ⟨gb215, 13, none⟩ = some (.slice none 0 0) := (zaa BK215.out 13).trans rfl; have hfz12_0 := zab BK215.out 0; have hfz12_1 := zab BK215.out 1; have hfz12_2 := zab BK215.out 2; have hfz12_3 := zab BK215.out 3; have hfz12_4 := zab BK215.out 4; have hfz12_5 := zab BK215.out 5; have hfz12_6 := zab BK215.out 6; have hfz12_7 := zab BK215.out 7; have hfz12_8 := zab BK215.out 8; have hfz12_9 := zab BK215.out 9; have hfz12_10 := zab BK215.out 10; have hfz12_11 := zab BK215.out 11; have hfz12_12 := zab BK215.out 12; have hfz12_13 := zab BK215.out 13))
 (try simp only [Act.put, List.setIfInBounds_toArray, List.set_cons_zero, List.set_cons_succ])
 go_cut [] (fun wc => ∃ (kq : Nat) (x1001_3 : Int) (x1002_3 : Bool) (x1003_3 : Bool) (x216002_3 : Int) (x216003_3 : ByteArray) (x216004_3 : ByteArray) (x216005_3 : ByteArray) (x216006_3 : ByteArray) (x216007_3 : ByteArray) (x216008_3 : ByteArray) (x216009_3 : List ByteArray) (x216010_3 : Int) (x216011_3 : Int) (x216012_3 : Int) (u216009 : Value), Aside0 (zaw.j0 kq t220 s0_0 x1001_3 x1002_3 x1003_3 (wrap64 (t216)) (wrap64 (t220)) x216002_3 x216003_3 x216004_3 x216005_3 x216006_3 x216007_3 x216008_3 x216009_3 x216010_3 x216011_3 x216012_3 = some (r1, r2, r3, r4, r5, r6, r7, r8, r9, r10, r11, r12, r13, r14, r15, r16, r17)) ∧ Aside0 (kq ≤ k) ∧ Aside0 (Kd.R Kd.string 9 wc w.heap.size (fun _ => True) u216009 x216009_3) ∧ Aside0 (wc.heap[gb214]? = some (.cells #[.int .i64 0, .int .i64 0, .int .i64 0, .string ⟨#[]⟩, .string ⟨#[]⟩, .string ⟨#[]⟩, .string ⟨#[]⟩, .string ⟨#[]⟩, .string ⟨#[]⟩, (.slice none 0 0), .int .i64 0, .int .i64 0, .int .i64 0, (.slice none 0 0)] 38 (0, 0))) ∧ Aside0 (wc.heap[gb215]? = some (.cells #[.int .i64 (wrap64 (t216)), .int .i64 (wrap64 (t220)), .int .i64 x216002_3, .string x216003_3, .string x216004_3, .string x216005_3, .string x216006_3, .string x216007_3, .string x216008_3, u216009, .int .i64 x216010_3, .int .i64 x216011_3, .int .i64 x216012_3, (.slice none 0 0)] 38 (0, 0))) ∧ Aside0 (IsS50 As0 cs0 w0 wc g s0_0 x1001_3 x1002_3 x1003_3) ∧ Aside0 (KeepBut w wc g none) ∧ Aside0 (Below w0.heap.size w0 wc))
 case first =>
  have H := HC4.out
  clear HC4
  by_cases c13 : t220 = 1
  ·rw [if_pos c13] at H
   have c13b0 : (t220 == 1) = true := beq_iff_eq.mpr c13
   have c13b1 : (t220 != 1) = false := bne_eq_false_iff_eq.mpr c13
   clear c13
   (first | rw [c13b0] | (simp only [zbz, zcc]; rw [c13b0]) | skip)
   replace H := Option.bind_eq_some_iff.mp H
   obtain ⟨⟨t224, t225, t226, t227, t228, t229, t230, t231, t234, t235, t236, t237, t238, t239⟩, A140, H⟩ := H
   replace H : (zaw.j0 k t220 s0_0 t237 t238 t239 (wrap64 (t216)) (wrap64 (t220)) t224 t225 t226 t227 t228 t229 t230 t231 t234 t235 t236) = some (r1, r2, r3, r4, r5, r6, r7, r8, r9, r10, r11, r12, r13, r14, r15, r16, r17) := H
   have A14 := Aside0.mk A140
   clear A140
   have H' := Aside0.mk H
   clear H
   go_wp2_with (first | ((with_reducible refine zbe (f := 17) rfl ?_); refine zcg (some 20) rfl rfl Try.func17 (by kernel_rfl) rfl #[.pointer (some ⟨g, 0, none⟩)] rfl (by (try simp only [List.map_toArray, List.map_cons, List.map_nil]); first | done | rfl | (simp only [List.length_drop, List.length_take]; rfl)) ?_; (with_reducible refine (zat.calls k (As0 := As0) (cs0 := cs0) g s0_0 t221 t222 t223 t224 t225 t226 t227 t228 t229 t230 t231 t234 t235 t236 t237 t238 t239 w0 _ ?side1 ?side2 A14.out).mono ?_); (case side1 => repeat (first | (with_reducible first | exact HI0.out | apply IsS50.alloc | apply IsS50.drewN | apply IsS50.drew | apply IsS50.zbx | apply IsS50.zbv | apply IsS50.zch | refine IsS50.far ?_ NB0_214.out _ | refine IsS50.far ?_ NB0_215.out _) | exact HI0.out)); (case side2 => repeat (first | (with_reducible first | exact HB.out | apply zad | apply zac | apply zae | refine zah ?_ (IsS50.ge HI0.out) | refine zah ?_ GE214.out | refine zah ?_ GE215.out) | exact HB.out)); rintro e w15 ⟨v232, rfl, ho0, hi, hb, hk⟩; refine ⟨_, rfl, ?_⟩; have n0_ := Aside0.mk (KeepBut.blk hk (g' := gb214) (o := .cells #[.int .i64 0, .int .i64 0, .int .i64 0, .string ⟨#[]⟩, .string ⟨#[]⟩, .string ⟨#[]⟩, .string ⟨#[]⟩, .string ⟨#[]⟩, .string ⟨#[]⟩, .slice none 0 0, .int .i64 0, .int .i64 0, .int .i64 0, .slice none 0 0] 38 (0, 0)) (by (with_reducible repeat (first | refine zag ?_ _ | refine zai ?_ | refine zaf ?_ _)); refine zbi ?_ NB214_215.out _; (with_reducible repeat (first | refine zag ?_ _ | refine zai ?_ | refine zaf ?_ _)); exact BK214.out) NB214_0.out (by simp)); have n1_ := Aside0.mk (KeepBut.blk hk (g' := gb215) (o := .cells #[.int .i64 (wrap64 (t216)), .int .i64 (wrap64 (t220)), .int .i64 0, .string ⟨#[]⟩, .string ⟨#[]⟩, .string ⟨#[]⟩, .string ⟨#[]⟩, .string ⟨#[]⟩, .string ⟨#[]⟩, .slice none 0 0, .int .i64 0, .int .i64 0, .int .i64 0, .slice none 0 0] 38 (0, 0)) (by (with_reducible repeat (first | refine zag ?_ _ | refine zai ?_ | refine zaf ?_ _)); refine zbd (cs := #[.int .i64 (wrap64 (t216)), .int .i64 0, .int .i64 0, .string ⟨#[]⟩, .string ⟨#[]⟩, .string ⟨#[]⟩, .string ⟨#[]⟩, .string ⟨#[]⟩, .string ⟨#[]⟩, .slice none 0 0, .int .i64 0, .int .i64 0, .int .i64 0, .slice none 0 0]) ?_ 1 _ rfl; (with_reducible repeat (first | refine zag ?_ _ | refine zai ?_ | refine zaf ?_ _)); exact BK215.out) NB215_0.out (by simp)); have n2_ := Aside0.mk (Kd.zdn ho0 (zdt (w := w) (g := g) (row := none) (by repeat (first | (with_reducible first | exact HK.out | apply KeepBut.set_ | apply zas | apply zav | apply zar | refine zbg ?_ GW214.out _ | refine zbg ?_ GW215.out _) | exact HK.out)))); have n3_ := Aside0.mk (KeepBut.trans (by repeat (first | (with_reducible first | exact HK.out | apply KeepBut.set_ | apply zas | apply zav | apply zar | refine zbg ?_ GW214.out _ | refine zbg ?_ GW215.out _) | exact HK.out)) hk (.inl rfl)); have n4_ := Aside0.mk (hb); have n5_ := Aside0.mk (hi); clear BK214; clear BK215; clear HK; clear HB; clear HI0; have BK214 := n0_; have BK215 := n1_; have HO233 := n2_; have HK := n3_; have HB := n4_; have HI0 := n5_; clear n0_ n1_ n2_ n3_ n4_ n5_; (try clear hb); (try clear hb2); (try clear hk); (try clear hi); (try clear ho0); have hnb16 := NB215_214.out; have hnc16 := NB214_215.out; have hnb17 := NB215_0.out; have hnc17 := NB0_215.out; have hcz18_0 : w15.cell? ⟨gb215, 0, none⟩ = some (.int .i64 (wrap64 (t216))) := (zaa BK215.out 0).trans rfl; have hcz18_1 : w15.cell? ⟨gb215, 1, none⟩ = some (.int .i64 (wrap64 (t220))) := (zaa BK215.out 1).trans rfl; have hcz18_2 : w15.cell? ⟨gb215, 2, none⟩ = some (.int .i64 0) := (zaa BK215.out 2).trans rfl; have hcz18_3 : w15.cell? ⟨gb215, 3, none⟩ = some (.string ⟨#[]⟩) := (zaa BK215.out 3).trans rfl; have hcz18_4 : w15.cell? ⟨gb215, 4, none⟩ = some (.string ⟨#[]⟩) := (zaa BK215.out 4).trans rfl; have hcz18_5 : w15.cell? ⟨gb215, 5, none⟩ = some (.string ⟨#[]⟩) := (zaa BK215.out 5).trans rfl; have hcz18_6 : w15.cell? ⟨gb215, 6, none⟩ = some (.string ⟨#[]⟩) := (zaa BK215.out 6).trans rfl; have hcz18_7 : w15.cell? ⟨gb215, 7, none⟩ = some (.string ⟨#[]⟩) := (zaa BK215.out 7).trans rfl; have hcz18_8 : w15.cell? ⟨gb215, 8, none⟩ = some (.string ⟨#[]⟩) := (zaa BK215.out 8).trans rfl; have hcz18_9 : w15.cell? ⟨gb215, 9, none⟩ = some (.slice none 0 0) := (zaa BK215.out 9).trans rfl; have hcz18_10 : w15.cell? ⟨gb215, 10, none⟩ = some (.int .i64 0) := (zaa BK215.out 10).trans rfl; have hcz18_11 : w15.cell? ⟨gb215, 11, none⟩ = some (.int .i64 0) := (zaa BK215.out 11).trans rfl; have hcz18_12 : w15.cell? ⟨gb215, 12, none⟩ = some (.int .i64 0) := (zaa BK215.out 12).trans rfl; have hcz18_13 : w15.cell? ⟨gb215, 13, none⟩ = some (.slice none 0 0) := (zaa BK215.out 13).trans rfl; have hfz18_0 := zab BK215.out 0; have hfz18_1 := zab BK215.out 1; have hfz18_2 := zab BK215.out 2; have hfz18_3 := zab BK215.out 3; have hfz18_4 := zab BK215.out 4; have hfz18_5 := zab BK215.out 5; have hfz18_6 := zab BK215.out 6; have hfz18_7 := zab BK215.out 7; have hfz18_8 := zab BK215.out 8; have hfz18_9 := zab BK215.out 9; have hfz18_10 := zab BK215.out 10; have hfz18_11 := zab BK215.out 11; have hfz18_12 := zab BK215.out 12; have hfz18_13 := zab BK215.out 13; obtain ⟨Ao19, co19, eo19⟩ := Kd.zbu HO233.out; subst eo19))
   go_meet
   case rel => exact ⟨_, (t237), (t238), (t239), (t224), (t225), (t226), (t227), (t228), (t229), (t230), (t231), (t234), (t235), (t236), (.slice Ao19 t231.length co19), H', ⟨by first | omega | exact Nat.le_refl _⟩, ⟨by (with_reducible repeat (first | apply Kd.zbb | apply Kd.zba | apply Kd.zbf)); exact Kd.zbh (Kd.zbk (p := ⟨gb215, 12, none⟩) (Kd.zbk (p := ⟨gb215, 11, none⟩) (Kd.zbk (p := ⟨gb215, 10, none⟩) (Kd.zbk (p := ⟨gb215, 9, none⟩) (Kd.zbk (p := ⟨gb215, 8, none⟩) (Kd.zbk (p := ⟨gb215, 7, none⟩) (Kd.zbk (p := ⟨gb215, 6, none⟩) (Kd.zbk (p := ⟨gb215, 5, none⟩) (Kd.zbk (p := ⟨gb215, 4, none⟩) (Kd.zbk (p := ⟨gb215, 3, none⟩) (Kd.zbk (p := ⟨gb215, 2, none⟩) (Kd.zco HO233.out BK215.out (by decide)) (fun _ hk => hk.2) (.int .i64 t224)) (fun _ hk => hk.2) (.string t225)) (fun _ hk => hk.2) (.string t226)) (fun _ hk => hk.2) (.string t227)) (fun _ hk => hk.2) (.string t228)) (fun _ hk => hk.2) (.string t229)) (fun _ hk => hk.2) (.string t230)) (fun _ hk => hk.2) (.slice Ao19 t231.length co19)) (fun _ hk => hk.2) (.int .i64 t234)) (fun _ hk => hk.2) (.int .i64 t235)) (fun _ hk => hk.2) (.int .i64 t236)) (fun _ hk => trivial)⟩, ⟨by (with_reducible repeat (first | refine zag ?_ _ | refine zai ?_ | refine zaf ?_ _)); refine zbi ?_ NB214_215.out _; (with_reducible repeat (first | refine zag ?_ _ | refine zai ?_ | refine zaf ?_ _)); refine zbi ?_ NB214_215.out _; (with_reducible repeat (first | refine zag ?_ _ | refine zai ?_ | refine zaf ?_ _)); refine zbi ?_ NB214_215.out _; (with_reducible repeat (first | refine zag ?_ _ | refine zai ?_ | refine zaf ?_ _)); refine zbi ?_ NB214_215.out _; (with_reducible repeat (first | refine zag ?_ _ | refine zai ?_ | refine zaf ?_ _)); refine zbi ?_ NB214_215.out _; (with_reducible repeat (first | refine zag ?_ _ | refine zai ?_ | refine zaf ?_ _)); refine zbi ?_ NB214_215.out _; (with_reducible repeat (first | refine zag ?_ _ | refine zai ?_ | refine zaf ?_ _)); refine zbi ?_ NB214_215.out _; (with_reducible repeat (first | refine zag ?_ _ | refine zai ?_ | refine zaf ?_ _)); refine zbi ?_ NB214_215.out _; (with_reducible repeat (first | refine zag ?_ _ | refine zai ?_ | refine zaf ?_ _)); refine zbi ?_ NB214_215.out _; (with_reducible repeat (first | refine zag ?_ _ | refine zai ?_ | refine zaf ?_ _)); refine zbi ?_ NB214_215.out _; (with_reducible repeat (first | refine zag ?_ _ | refine zai ?_ | refine zaf ?_ _)); refine zbi ?_ NB214_215.out _; (with_reducible repeat (first | refine zag ?_ _ | refine zai ?_ | refine zaf ?_ _)); exact BK214.out⟩, ⟨by (with_reducible repeat (first | refine zag ?_ _ | refine zai ?_ | refine zaf ?_ _)); refine zbd (cs := #[.int .i64 (wrap64 (t216)), .int .i64 (wrap64 (t220)), .int .i64 t224, .string t225, .string t226, .string t227, .string t228, .string t229, .string t230, .slice Ao19 t231.length co19, .int .i64 t234, .int .i64 t235, .int .i64 0, .slice none 0 0]) ?_ 12 _ rfl; (with_reducible repeat (first | refine zag ?_ _ | refine zai ?_ | refine zaf ?_ _)); refine zbd (cs := #[.int .i64 (wrap64 (t216)), .int .i64 (wrap64 (t220)), .int .i64 t224, .string t225, .string t226, .string t227, .string t228, .string t229, .string t230, .slice Ao19 t231.length co19, .int .i64 t234, .int .i64 0, .int .i64 0, .slice none 0 0]) ?_ 11 _ rfl; (with_reducible repeat (first | refine zag ?_ _ | refine zai ?_ | refine zaf ?_ _)); refine zbd (cs := #[.int .i64 (wrap64 (t216)), .int .i64 (wrap64 (t220)), .int .i64 t224, .string t225, .string t226, .string t227, .string t228, .string t229, .string t230, .slice Ao19 t231.length co19, .int .i64 0, .int .i64 0, .int .i64 0, .slice none 0 0]) ?_ 10 _ rfl; (with_reducible repeat (first | refine zag ?_ _ | refine zai ?_ | refine zaf ?_ _)); refine zbd (cs := #[.int .i64 (wrap64 (t216)), .int .i64 (wrap64 (t220)), .int .i64 t224, .string t225, .string t226, .string t227, .string t228, .string t229, .string t230, .slice none 0 0, .int .i64 0, .int .i64 0, .int .i64 0, .slice none 0 0]) ?_ 9 _ rfl; (with_reducible repeat (first | refine zag ?_ _ | refine zai ?_ | refine zaf ?_ _)); refine zbd (cs := #[.int .i64 (wrap64 (t216)), .int .i64 (wrap64 (t220)), .int .i64 t224, .string t225, .string t226, .string t227, .string t228, .string t229, .string ⟨#[]⟩, .slice none 0 0, .int .i64 0, .int .i64 0, .int .i64 0, .slice none 0 0]) ?_ 8 _ rfl; (with_reducible repeat (first | refine zag ?_ _ | refine zai ?_ | refine zaf ?_ _)); refine zbd (cs := #[.int .i64 (wrap64 (t216)), .int .i64 (wrap64 (t220)), .int .i64 t224, .string t225, .string t226, .string t227, .string t228, .string ⟨#[]⟩, .string ⟨#[]⟩, .slice none 0 0, .int .i64 0, .int .i64 0, .int .i64 0, .slice none 0 0]) ?_ 7 _ rfl; (with_reducible repeat (first | refine zag ?_ _ | refine zai ?_ | refine zaf ?_ _)); refine zbd (cs := #[.int .i64 (wrap64 (t216)), .int .i64 (wrap64 (t220)), .int .i64 t224, .string t225, .string t226, .string t227, .string ⟨#[]⟩, .string ⟨#[]⟩, .string ⟨#[]⟩, .slice none 0 0, .int .i64 0, .int .i64 0, .int .i64 0, .slice none 0 0]) ?_ 6 _ rfl; (with_reducible repeat (first | refine zag ?_ _ | refine zai ?_ | refine zaf ?_ _)); refine zbd (cs := #[.int .i64 (wrap64 (t216)), .int .i64 (wrap64 (t220)), .int .i64 t224, .string t225, .string t226, .string ⟨#[]⟩, .string ⟨#[]⟩, .string ⟨#[]⟩, .string ⟨#[]⟩, .slice none 0 0, .int .i64 0, .int .i64 0, .int .i64 0, .slice none 0 0]) ?_ 5 _ rfl; (with_reducible repeat (first | refine zag ?_ _ | refine zai ?_ | refine zaf ?_ _)); refine zbd (cs := #[.int .i64 (wrap64 (t216)), .int .i64 (wrap64 (t220)), .int .i64 t224, .string t225, .string ⟨#[]⟩, .string ⟨#[]⟩, .string ⟨#[]⟩, .string ⟨#[]⟩, .string ⟨#[]⟩, .slice none 0 0, .int .i64 0, .int .i64 0, .int .i64 0, .slice none 0 0]) ?_ 4 _ rfl; (with_reducible repeat (first | refine zag ?_ _ | refine zai ?_ | refine zaf ?_ _)); refine zbd (cs := #[.int .i64 (wrap64 (t216)), .int .i64 (wrap64 (t220)), .int .i64 t224, .string ⟨#[]⟩, .string ⟨#[]⟩, .string ⟨#[]⟩, .string ⟨#[]⟩, .string ⟨#[]⟩, .string ⟨#[]⟩, .slice none 0 0, .int .i64 0, .int .i64 0, .int .i64 0, .slice none 0 0]) ?_ 3 _ rfl; (with_reducible repeat (first | refine zag ?_ _ | refine zai ?_ | refine zaf ?_ _)); refine zbd (cs := #[.int .i64 (wrap64 (t216)), .int .i64 (wrap64 (t220)), .int .i64 0, .string ⟨#[]⟩, .string ⟨#[]⟩, .string ⟨#[]⟩, .string ⟨#[]⟩, .string ⟨#[]⟩, .string ⟨#[]⟩, .slice none 0 0, .int .i64 0, .int .i64 0, .int .i64 0, .slice none 0 0]) ?_ 2 _ rfl; (with_reducible repeat (first | refine zag ?_ _ | refine zai ?_ | refine zaf ?_ _)); exact BK215.out⟩, ⟨by repeat (first | (with_reducible first | exact HI0.out | apply IsS50.alloc | apply IsS50.drewN | apply IsS50.drew | apply IsS50.zbx | apply IsS50.zbv | apply IsS50.zch | refine IsS50.far ?_ NB0_214.out _ | refine IsS50.far ?_ NB0_215.out _) | exact HI0.out)⟩, ⟨by repeat (first | (with_reducible first | exact HK.out | apply KeepBut.set_ | apply zas | apply zav | apply zar | refine zbg ?_ GW214.out _ | refine zbg ?_ GW215.out _) | exact HK.out)⟩, ⟨by repeat (first | (with_reducible first | exact HB.out | apply zad | apply zac | apply zae | refine zah ?_ (IsS50.ge HI0.out) | refine zah ?_ GE214.out | refine zah ?_ GE215.out) | exact HB.out)⟩⟩
  ·rw [if_neg c13] at H
   have c13b0 : (t220 == 1) = false := beq_eq_false_iff_ne.mpr c13
   have c13b1 : (t220 != 1) = true := bne_iff_ne.mpr c13
   (first | rw [c13b0] | (simp only [zbz, zcc]; rw [c13b0]) | skip)
   have H' := Aside0.mk H
   clear H
   go_wp2
   go_meet
   case rel => exact ⟨_, (t221), (t222), (t223), (0), ((⟨#[]⟩ : ByteArray)), ((⟨#[]⟩ : ByteArray)), ((⟨#[]⟩ : ByteArray)), ((⟨#[]⟩ : ByteArray)), ((⟨#[]⟩ : ByteArray)), ((⟨#[]⟩ : ByteArray)), (([] : List ByteArray)), (0), (0), (0), (.slice none 0 0), H', ⟨by first | omega | exact Nat.le_refl _⟩, ⟨by first | exact Kd.zdf _ _ _ _ _ | exact Kd.zjm _ _ _ _ _ | exact Kd.zji _ _ _ _ _ | exact Kd.zjl _ _ _ _ _ | exact Kd.zjj _ _ _ _ _⟩, ⟨by (with_reducible repeat (first | refine zag ?_ _ | refine zai ?_ | refine zaf ?_ _)); refine zbi ?_ NB214_215.out _; (with_reducible repeat (first | refine zag ?_ _ | refine zai ?_ | refine zaf ?_ _)); exact BK214.out⟩, ⟨by (with_reducible repeat (first | refine zag ?_ _ | refine zai ?_ | refine zaf ?_ _)); refine zbd (cs := #[.int .i64 (wrap64 (t216)), .int .i64 0, .int .i64 0, .string ⟨#[]⟩, .string ⟨#[]⟩, .string ⟨#[]⟩, .string ⟨#[]⟩, .string ⟨#[]⟩, .string ⟨#[]⟩, .slice none 0 0, .int .i64 0, .int .i64 0, .int .i64 0, .slice none 0 0]) ?_ 1 _ rfl; (with_reducible repeat (first | refine zag ?_ _ | refine zai ?_ | refine zaf ?_ _)); exact BK215.out⟩, ⟨by repeat (first | (with_reducible first | exact HI0.out | apply IsS50.alloc | apply IsS50.drewN | apply IsS50.drew | apply IsS50.zbx | apply IsS50.zbv | apply IsS50.zch | refine IsS50.far ?_ NB0_214.out _ | refine IsS50.far ?_ NB0_215.out _) | exact HI0.out)⟩, ⟨by repeat (first | (with_reducible first | exact HK.out | apply KeepBut.set_ | apply zas | apply zav | apply zar | refine zbg ?_ GW214.out _ | refine zbg ?_ GW215.out _) | exact HK.out)⟩, ⟨by repeat (first | (with_reducible first | exact HB.out | apply zad | apply zac | apply zae | refine zah ?_ (IsS50.ge HI0.out) | refine zah ?_ GE214.out | refine zah ?_ GE215.out) | exact HB.out)⟩⟩
 case rest =>
  clear HC4
  try clear c1
  try clear p2
  try clear c4
  try clear p6
  try clear c8
  try clear c9
  try clear c13
  try clear c13b0
  try clear c13b1
  try clear c16
  try clear c17
  try clear c19
  try clear hcz10_0
  try clear hcz10_1
  try clear hcz10_10
  try clear hcz10_11
  try clear hcz10_12
  try clear hcz10_13
  try clear hcz10_2
  try clear hcz10_3
  try clear hcz10_4
  try clear hcz10_5
  try clear hcz10_6
  try clear hcz10_7
  try clear hcz10_8
  try clear hcz10_9
  try clear hcz12_0
  try clear hcz12_1
  try clear hcz12_10
  try clear hcz12_11
  try clear hcz12_12
  try clear hcz12_13
  try clear hcz12_2
  try clear hcz12_3
  try clear hcz12_4
  try clear hcz12_5
  try clear hcz12_6
  try clear hcz12_7
  try clear hcz12_8
  try clear hcz12_9
  try clear hcz18_0
  try clear hcz18_1
  try clear hcz18_10
  try clear hcz18_11
  try clear hcz18_12
  try clear hcz18_13
  try clear hcz18_2
  try clear hcz18_3
  try clear hcz18_4
  try clear hcz18_5
  try clear hcz18_6
  try clear hcz18_7
  try clear hcz18_8
  try clear hcz18_9
  try clear hfz10_0
  try clear hfz10_1
  try clear hfz10_10
  try clear hfz10_11
  try clear hfz10_12
  try clear hfz10_13
  try clear hfz10_2
  try clear hfz10_3
  try clear hfz10_4
  try clear hfz10_5
  try clear hfz10_6
  try clear hfz10_7
  try clear hfz10_8
  try clear hfz10_9
  try clear hfz12_0
  try clear hfz12_1
  try clear hfz12_10
  try clear hfz12_11
  try clear hfz12_12
  try clear hfz12_13
  try clear hfz12_2
  try clear hfz12_3
  try clear hfz12_4
  try clear hfz12_5
  try clear hfz12_6
  try clear hfz12_7
  try clear hfz12_8
  try clear hfz12_9
  try clear hfz18_0
  try clear hfz18_1
  try clear hfz18_10
  try clear hfz18_11
  try clear hfz18_12
  try clear hfz18_13
  try clear hfz18_2
  try clear hfz18_3
  try clear hfz18_4
  try clear hfz18_5
  try clear hfz18_6
  try clear hfz18_7
  try clear hfz18_8
  try clear hfz18_9
  obtain ⟨kq, x1001_3, x1002_3, x1003_3, x216002_3, x216003_3, x216004_3, x216005_3, x216006_3, x216007_3, x216008_3, x216009_3, x216010_3, x216011_3, x216012_3, u216009, HA, HJ3, HO_216009, BK214, BK215, HI0, HK, HB⟩ := hcut
  cases kq with
  | zero => exact absurd HA.out (by simp [zaw.j0])
  | succ kj3 =>
   have H := HA.out
   clear HA
   simp only [zaw.j0] at H
   by_cases c20 : t220 = 2
   ·rw [if_pos c20] at H
    have c20b0 : (t220 == 2) = true := beq_iff_eq.mpr c20
    have c20b1 : (t220 != 2) = false := bne_eq_false_iff_eq.mpr c20
    clear c20
    replace H := Option.bind_eq_some_iff.mp H
    obtain ⟨⟨t240, t241, t242, t243⟩, A210, H⟩ := H
    replace H : (zaw.l0 kj3 t240 0 s0_0 t241 t242 t243 (wrap64 (t216)) (wrap64 (t220)) x216002_3 x216003_3 x216004_3 x216005_3 x216006_3 x216007_3 x216008_3 x216009_3 x216010_3 x216011_3 x216012_3 ([] : List Int)) = some (r1, r2, r3, r4, r5, r6, r7, r8, r9, r10, r11, r12, r13, r14, r15, r16, r17) := H
    have A21 := Aside0.mk A210
    clear A210
    have H' := Aside0.mk H
    clear H
    go_wp2_with (first | ((with_reducible refine zbe (f := 46) rfl ?_); refine zcg (some 25) rfl rfl Try.func46 (by kernel_rfl) rfl #[.pointer (some ⟨g, 0, none⟩)] rfl (by (try simp only [List.map_toArray, List.map_cons, List.map_nil]); first | done | rfl | (simp only [List.length_drop, List.length_take]; rfl)) ?_; (with_reducible refine (zbj.calls kj3 (As0 := As0) (cs0 := cs0) g s0_0 x1001_3 x1002_3 x1003_3 t240 t241 t242 t243 w0 _ ?side1 ?side2 A21.out).mono ?_); (case side1 => repeat (first | (with_reducible first | exact HI0.out | apply IsS50.alloc | apply IsS50.drewN | apply IsS50.drew | apply IsS50.zbx | apply IsS50.zbv | apply IsS50.zch | refine IsS50.far ?_ NB0_214.out _ | refine IsS50.far ?_ NB0_215.out _) | exact HI0.out)); (case side2 => repeat (first | (with_reducible first | exact HB.out | apply zad | apply zac | apply zae | refine zah ?_ (IsS50.ge HI0.out) | refine zah ?_ GE214.out | refine zah ?_ GE215.out) | exact HB.out)); rintro e w22 ⟨rfl, hi, hb, hk⟩; refine ⟨_, rfl, ?_⟩; have n0_ := Aside0.mk (Kd.zbh (Kd.zdg (IsS50.apart (show IsS50 As0 cs0 w0 _ g s0_0 x1001_3 x1002_3 x1003_3 from by repeat (first | (with_reducible first | exact HI0.out | apply IsS50.alloc | apply IsS50.drewN | apply IsS50.drew | apply IsS50.zbx | apply IsS50.zbv | apply IsS50.zch | refine IsS50.far ?_ NB0_214.out _ | refine IsS50.far ?_ NB0_215.out _) | exact HI0.out)) (by (with_reducible repeat (first | apply Kd.zbb | apply Kd.zba | apply Kd.zbf)); exact HO_216009.out) (by decide)) hk (fun _ h => h.2)) (fun _ h => h.1)); have n1_ := Aside0.mk (KeepBut.blk hk (g' := gb214) (o := .cells #[.int .i64 0, .int .i64 0, .int .i64 0, .string ⟨#[]⟩, .string ⟨#[]⟩, .string ⟨#[]⟩, .string ⟨#[]⟩, .string ⟨#[]⟩, .string ⟨#[]⟩, .slice none 0 0, .int .i64 0, .int .i64 0, .int .i64 0, .slice none 0 0] 38 (0, 0)) (by (with_reducible repeat (first | refine zag ?_ _ | refine zai ?_ | refine zaf ?_ _)); exact BK214.out) NB214_0.out (by simp)); have n2_ := Aside0.mk (KeepBut.blk hk (g' := gb215) (o := .cells #[.int .i64 (wrap64 (t216)), .int .i64 (wrap64 (t220)), .int .i64 x216002_3, .string x216003_3, .string x216004_3, .string x216005_3, .string x216006_3, .string x216007_3, .string x216008_3, u216009, .int .i64 x216010_3, .int .i64 x216011_3, .int .i64 x216012_3, .slice none 0 0] 38 (0, 0)) (by (with_reducible repeat (first | refine zag ?_ _ | refine zai ?_ | refine zaf ?_ _)); exact BK215.out) NB215_0.out (by simp)); have n3_ := Aside0.mk (KeepBut.trans (by repeat (first | (with_reducible first | exact HK.out | apply KeepBut.set_ | apply zas | apply zav | apply zar | refine zbg ?_ GW214.out _ | refine zbg ?_ GW215.out _) | exact HK.out)) hk (.inl rfl)); have n4_ := Aside0.mk (hb); have n5_ := Aside0.mk (hi); clear HO_216009; clear BK214; clear BK215; clear HK; clear HB; clear HI0; have HO_216009 := n0_; have BK214 := n1_; have BK215 := n2_; have HK := n3_; have HB := n4_; have HI0 := n5_; clear n0_ n1_ n2_ n3_ n4_ n5_; (try clear hb); (try clear hb2); (try clear hk); (try clear hi)))
    go_loopg [6] kj3 (fun kq v6 w' => ∃ (x6_2 : Int) (x1001_2 : Int) (x1002_2 : Bool) (x1003_2 : Bool) (x216013_2 : List Int) (u216013 : Value), v6 = .int .i64 x6_2 ∧ Aside0 (zaw.l0 kq t240 x6_2 s0_0 x1001_2 x1002_2 x1003_2 (wrap64 (t216)) (wrap64 (t220)) x216002_3 x216003_3 x216004_3 x216005_3 x216006_3 x216007_3 x216008_3 x216009_3 x216010_3 x216011_3 x216012_3 x216013_2 = some (r1, r2, r3, r4, r5, r6, r7, r8, r9, r10, r11, r12, r13, r14, r15, r16, r17)) ∧ Aside0 (kq ≤ kj3) ∧ Aside0 (Kd.R Kd.string 9 w' w.heap.size (fun _ => True) u216009 x216009_3) ∧ Aside0 (Kd.R (Kd.int .i64) 3 w' w.heap.size (fun _ => True) u216013 x216013_2) ∧ Aside0 (w'.heap[gb214]? = some (.cells #[.int .i64 0, .int .i64 0, .int .i64 0, .string ⟨#[]⟩, .string ⟨#[]⟩, .string ⟨#[]⟩, .string ⟨#[]⟩, .string ⟨#[]⟩, .string ⟨#[]⟩, (.slice none 0 0), .int .i64 0, .int .i64 0, .int .i64 0, (.slice none 0 0)] 38 (0, 0))) ∧ Aside0 (w'.heap[gb215]? = some (.cells #[.int .i64 (wrap64 (t216)), .int .i64 (wrap64 (t220)), .int .i64 x216002_3, .string x216003_3, .string x216004_3, .string x216005_3, .string x216006_3, .string x216007_3, .string x216008_3, u216009, .int .i64 x216010_3, .int .i64 x216011_3, .int .i64 x216012_3, u216013] 38 (0, 0))) ∧ Aside0 (IsS50 As0 cs0 w0 w' g s0_0 x1001_2 x1002_2 x1003_2) ∧ Aside0 (KeepBut w w' g none) ∧ Aside0 (Below w0.heap.size w0 w'))
    case atStart => exact ⟨(0), (t241), (t242), (t243), (([] : List Int)), (.slice none 0 0), (by first | rfl | (simp; done) | (simp [*]; done)), H', ⟨Nat.le_refl _⟩, ⟨by (with_reducible repeat (first | apply Kd.zbb | apply Kd.zba | apply Kd.zbf)); exact HO_216009.out⟩, ⟨by first | exact Kd.zdf _ _ _ _ _ | exact Kd.zjm _ _ _ _ _ | exact Kd.zji _ _ _ _ _ | exact Kd.zjl _ _ _ _ _ | exact Kd.zjj _ _ _ _ _⟩, ⟨by (with_reducible repeat (first | refine zag ?_ _ | refine zai ?_ | refine zaf ?_ _)); exact BK214.out⟩, ⟨by (with_reducible repeat (first | refine zag ?_ _ | refine zai ?_ | refine zaf ?_ _)); exact BK215.out⟩, ⟨by repeat (first | (with_reducible first | exact HI0.out | apply IsS50.alloc | apply IsS50.drewN | apply IsS50.drew | apply IsS50.zbx | apply IsS50.zbv | apply IsS50.zch | refine IsS50.far ?_ NB0_214.out _ | refine IsS50.far ?_ NB0_215.out _) | exact HI0.out)⟩, ⟨by repeat (first | (with_reducible first | exact HK.out | apply KeepBut.set_ | apply zas | apply zav | apply zar | refine zbg ?_ GW214.out _ | refine zbg ?_ GW215.out _) | exact HK.out)⟩, ⟨by repeat (first | (with_reducible first | exact HB.out | apply zad | apply zac | apply zae | refine zah ?_ (IsS50.ge HI0.out) | refine zah ?_ GE214.out | refine zah ?_ GE215.out) | exact HB.out)⟩⟩
    case round =>
     clear H'
     try clear c1
     try clear c2
     try clear p2
     try clear c4
     try clear p6
     try clear c8
     try clear c9
     try clear c13
     try clear c13b0
     try clear c13b1
     try clear c16
     try clear c17
     try clear c19
     try clear c20
     try clear c20b0
     try clear c20b1
     try clear hcz10_0
     try clear hcz10_1
     try clear hcz10_10
     try clear hcz10_11
     try clear hcz10_12
     try clear hcz10_13
     try clear hcz10_2
     try clear hcz10_3
     try clear hcz10_4
     try clear hcz10_5
     try clear hcz10_6
     try clear hcz10_7
     try clear hcz10_8
     try clear hcz10_9
     try clear hcz12_0
     try clear hcz12_1
     try clear hcz12_10
     try clear hcz12_11
     try clear hcz12_12
     try clear hcz12_13
     try clear hcz12_2
     try clear hcz12_3
     try clear hcz12_4
     try clear hcz12_5
     try clear hcz12_6
     try clear hcz12_7
     try clear hcz12_8
     try clear hcz12_9
     try clear hcz18_0
     try clear hcz18_1
     try clear hcz18_10
     try clear hcz18_11
     try clear hcz18_12
     try clear hcz18_13
     try clear hcz18_2
     try clear hcz18_3
     try clear hcz18_4
     try clear hcz18_5
     try clear hcz18_6
     try clear hcz18_7
     try clear hcz18_8
     try clear hcz18_9
     try clear hfz10_0
     try clear hfz10_1
     try clear hfz10_10
     try clear hfz10_11
     try clear hfz10_12
     try clear hfz10_13
     try clear hfz10_2
     try clear hfz10_3
     try clear hfz10_4
     try clear hfz10_5
     try clear hfz10_6
     try clear hfz10_7
     try clear hfz10_8
     try clear hfz10_9
     try clear hfz12_0
     try clear hfz12_1
     try clear hfz12_10
     try clear hfz12_11
     try clear hfz12_12
     try clear hfz12_13
     try clear hfz12_2
     try clear hfz12_3
     try clear hfz12_4
     try clear hfz12_5
     try clear hfz12_6
     try clear hfz12_7
     try clear hfz12_8
     try clear hfz12_9
     try clear hfz18_0
     try clear hfz18_1
     try clear hfz18_10
     try clear hfz18_11
     try clear hfz18_12
     try clear hfz18_13
     try clear hfz18_2
     try clear hfz18_3
     try clear hfz18_4
     try clear hfz18_5
     try clear hfz18_6
     try clear hfz18_7
     try clear hfz18_8
     try clear hfz18_9
     try clear p2
     try clear p6
     obtain ⟨x6_2, x1001_2, x1002_2, x1003_2, x216013_2, u216013, rfl, HA, HK2, HO_216009, HO_216013, BK214, BK215, HI0, HK, HB⟩ := hrel
     cases gk with
     | zero => exact absurd HA.out (by simp [zaw.l0])
     | succ k2 =>
      have H := HA.out
      clear HA
      simp only [zaw.l0] at H
      by_cases c23 : x6_2 < t240
      ·rw [if_pos c23] at H
       have c23b0 : decide (x6_2 < t240) = true := decide_eq_true c23
       clear c23
       by_cases c24 : x1002_2 = true
       ·subst c24
        have H1 : (some ((wrap64 (t216)), (wrap64 (t220)), x216002_3, x216003_3, x216004_3, x216005_3, x216006_3, x216007_3, x216008_3, x216009_3, x216010_3, x216011_3, x216012_3, x216013_2, x1001_2, true, x1003_2)) = some (r1, r2, r3, r4, r5, r6, r7, r8, r9, r10, r11, r12, r13, r14, r15, r16, r17) := by rw [if_pos rfl] at H; exact H
        clear H
        have H := H1
        clear H1
        simp only [Option.some.injEq, Prod.mk.injEq] at H
        obtain ⟨rfl, rfl, rfl, rfl, rfl, rfl, rfl, rfl, rfl, rfl, rfl, rfl, rfl, rfl, rfl, rfl, rfl⟩ := H
        obtain ⟨ASz25_0, cSz25_0, HGz25, hgz25, ⟨HSz25_0, -, -, -⟩⟩ := HI0.out
        have hcz25_0 := zcb HGz25
        have hcz25_1 := zca HGz25
        have hcz25_2 := zcf HGz25
        have hcz25_3 := zce HGz25
        have hfz25_1 := zab HGz25 1
        have hfz25_2 := zab HGz25 2
        have hfz25_3 := zab HGz25 3
        clear HGz25 hgz25
        have hnb26 := NB215_214.out
        have hnc26 := NB214_215.out
        have hnb27 := NB215_0.out
        have hnc27 := NB0_215.out
        have hcz28_0 : wr.cell? ⟨gb215, 0, none⟩ = some (.int .i64 (wrap64 (t216))) := (zaa BK215.out 0).trans rfl
        have hcz28_1 : wr.cell? ⟨gb215, 1, none⟩ = some (.int .i64 (wrap64 (t220))) := (zaa BK215.out 1).trans rfl
        have hcz28_2 : wr.cell? ⟨gb215, 2, none⟩ = some (.int .i64 x216002_3) := (zaa BK215.out 2).trans rfl
        have hcz28_3 : wr.cell? ⟨gb215, 3, none⟩ = some (.string x216003_3) := (zaa BK215.out 3).trans rfl
        have hcz28_4 : wr.cell? ⟨gb215, 4, none⟩ = some (.string x216004_3) := (zaa BK215.out 4).trans rfl
        have hcz28_5 : wr.cell? ⟨gb215, 5, none⟩ = some (.string x216005_3) := (zaa BK215.out 5).trans rfl
        have hcz28_6 : wr.cell? ⟨gb215, 6, none⟩ = some (.string x216006_3) := (zaa BK215.out 6).trans rfl
        have hcz28_7 : wr.cell? ⟨gb215, 7, none⟩ = some (.string x216007_3) := (zaa BK215.out 7).trans rfl
        have hcz28_8 : wr.cell? ⟨gb215, 8, none⟩ = some (.string x216008_3) := (zaa BK215.out 8).trans rfl
        have hcz28_9 : wr.cell? ⟨gb215, 9, none⟩ = some (u216009) := (zaa BK215.out 9).trans rfl
        have hcz28_10 : wr.cell? ⟨gb215, 10, none⟩ = some (.int .i64 x216010_3) := (zaa BK215.out 10).trans rfl
        have hcz28_11 : wr.cell? ⟨gb215, 11, none⟩ = some (.int .i64 x216011_3) := (zaa BK215.out 11).trans rfl
        have hcz28_12 : wr.cell? ⟨gb215, 12, none⟩ = some (.int .i64 x216012_3) := (zaa BK215.out 12).trans rfl
        have hcz28_13 : wr.cell? ⟨gb215, 13, none⟩ = some (u216013) := (zaa BK215.out 13).trans rfl
        have hfz28_0 := zab BK215.out 0
        have hfz28_1 := zab BK215.out 1
        have hfz28_2 := zab BK215.out 2
        have hfz28_3 := zab BK215.out 3
        have hfz28_4 := zab BK215.out 4
        have hfz28_5 := zab BK215.out 5
        have hfz28_6 := zab BK215.out 6
        have hfz28_7 := zab BK215.out 7
        have hfz28_8 := zab BK215.out 8
        have hfz28_9 := zab BK215.out 9
        have hfz28_10 := zab BK215.out 10
        have hfz28_11 := zab BK215.out 11
        have hfz28_12 := zab BK215.out 12
        have hfz28_13 := zab BK215.out 13
        have hnb29 := NB214_0.out
        have hnc29 := NB0_214.out
        have hcz30_0 : wr.cell? ⟨gb214, 0, none⟩ = some (.int .i64 0) := (zaa BK214.out 0).trans rfl
        have hcz30_1 : wr.cell? ⟨gb214, 1, none⟩ = some (.int .i64 0) := (zaa BK214.out 1).trans rfl
        have hcz30_2 : wr.cell? ⟨gb214, 2, none⟩ = some (.int .i64 0) := (zaa BK214.out 2).trans rfl
        have hcz30_3 : wr.cell? ⟨gb214, 3, none⟩ = some (.string ⟨#[]⟩) := (zaa BK214.out 3).trans rfl
        have hcz30_4 : wr.cell? ⟨gb214, 4, none⟩ = some (.string ⟨#[]⟩) := (zaa BK214.out 4).trans rfl
        have hcz30_5 : wr.cell? ⟨gb214, 5, none⟩ = some (.string ⟨#[]⟩) := (zaa BK214.out 5).trans rfl
        have hcz30_6 : wr.cell? ⟨gb214, 6, none⟩ = some (.string ⟨#[]⟩) := (zaa BK214.out 6).trans rfl
        have hcz30_7 : wr.cell? ⟨gb214, 7, none⟩ = some (.string ⟨#[]⟩) := (zaa BK214.out 7).trans rfl
        have hcz30_8 : wr.cell? ⟨gb214, 8, none⟩ = some (.string ⟨#[]⟩) := (zaa BK214.out 8).trans rfl
        have hcz30_9 : wr.cell? ⟨gb214, 9, none⟩ = some (.slice none 0 0) := (zaa BK214.out 9).trans rfl
        have hcz30_10 : wr.cell? ⟨gb214, 10, none⟩ = some (.int .i64 0) := (zaa BK214.out 10).trans rfl
        have hcz30_11 : wr.cell? ⟨gb214, 11, none⟩ = some (.int .i64 0) := (zaa BK214.out 11).trans rfl
        have hcz30_12 : wr.cell? ⟨gb214, 12, none⟩ = some (.int .i64 0) := (zaa BK214.out 12).trans rfl
        have hcz30_13 : wr.cell? ⟨gb214, 13, none⟩ = some (.slice none 0 0) := (zaa BK214.out 13).trans rfl
        have hfz30_0 := zab BK214.out 0
        have hfz30_1 := zab BK214.out 1
        have hfz30_2 := zab BK214.out 2
        have hfz30_3 := zab BK214.out 3
        have hfz30_4 := zab BK214.out 4
        have hfz30_5 := zab BK214.out 5
        have hfz30_6 := zab BK214.out 6
        have hfz30_7 := zab BK214.out 7
        have hfz30_8 := zab BK214.out 8
        have hfz30_9 := zab BK214.out 9
        have hfz30_10 := zab BK214.out 10
        have hfz30_11 := zab BK214.out 11
        have hfz30_12 := zab BK214.out 12
        have hfz30_13 := zab BK214.out 13
        obtain ⟨Ao31, co31, eo31⟩ := Kd.zbu HO_216009.out
        subst eo31
        obtain ⟨Ao32, co32, eo32⟩ := Kd.zbu HO_216013.out
        subst eo32
        go_wp2
        refine bodyPost_ret (results_cell_row rfl _ _ gb214 38 #[.int .i64 (wrap64 (t216)), .int .i64 (wrap64 (t220)), .int .i64 x216002_3, .string x216003_3, .string x216004_3, .string x216005_3, .string x216006_3, .string x216007_3, .string x216008_3, .slice Ao31 x216009_3.length co31, .int .i64 x216010_3, .int .i64 x216011_3, .int .i64 x216012_3, .slice Ao32 x216013_2.length co32] (0, 0) _ rfl (by (with_reducible repeat (first | refine zag ?_ _ | refine zai ?_ | refine zaf ?_ _)); refine zbd (cs := #[.int .i64 (wrap64 (t216)), .int .i64 (wrap64 (t220)), .int .i64 x216002_3, .string x216003_3, .string x216004_3, .string x216005_3, .string x216006_3, .string x216007_3, .string x216008_3, .slice Ao31 x216009_3.length co31, .int .i64 x216010_3, .int .i64 x216011_3, .int .i64 x216012_3, .slice none 0 0]) ?_ 13 _ rfl; (with_reducible repeat (first | refine zag ?_ _ | refine zai ?_ | refine zaf ?_ _)); refine zbd (cs := #[.int .i64 (wrap64 (t216)), .int .i64 (wrap64 (t220)), .int .i64 x216002_3, .string x216003_3, .string x216004_3, .string x216005_3, .string x216006_3, .string x216007_3, .string x216008_3, .slice Ao31 x216009_3.length co31, .int .i64 x216010_3, .int .i64 x216011_3, .int .i64 0, .slice none 0 0]) ?_ 12 _ rfl; (with_reducible repeat (first | refine zag ?_ _ | refine zai ?_ | refine zaf ?_ _)); refine zbd (cs := #[.int .i64 (wrap64 (t216)), .int .i64 (wrap64 (t220)), .int .i64 x216002_3, .string x216003_3, .string x216004_3, .string x216005_3, .string x216006_3, .string x216007_3, .string x216008_3, .slice Ao31 x216009_3.length co31, .int .i64 x216010_3, .int .i64 0, .int .i64 0, .slice none 0 0]) ?_ 11 _ rfl; (with_reducible repeat (first | refine zag ?_ _ | refine zai ?_ | refine zaf ?_ _)); refine zbd (cs := #[.int .i64 (wrap64 (t216)), .int .i64 (wrap64 (t220)), .int .i64 x216002_3, .string x216003_3, .string x216004_3, .string x216005_3, .string x216006_3, .string x216007_3, .string x216008_3, .slice Ao31 x216009_3.length co31, .int .i64 0, .int .i64 0, .int .i64 0, .slice none 0 0]) ?_ 10 _ rfl; (with_reducible repeat (first | refine zag ?_ _ | refine zai ?_ | refine zaf ?_ _)); refine zbd (cs := #[.int .i64 (wrap64 (t216)), .int .i64 (wrap64 (t220)), .int .i64 x216002_3, .string x216003_3, .string x216004_3, .string x216005_3, .string x216006_3, .string x216007_3, .string x216008_3, .slice none 0 0, .int .i64 0, .int .i64 0, .int .i64 0, .slice none 0 0]) ?_ 9 _ rfl; (with_reducible repeat (first | refine zag ?_ _ | refine zai ?_ | refine zaf ?_ _)); refine zbd (cs := #[.int .i64 (wrap64 (t216)), .int .i64 (wrap64 (t220)), .int .i64 x216002_3, .string x216003_3, .string x216004_3, .string x216005_3, .string x216006_3, .string x216007_3, .string ⟨#[]⟩, .slice none 0 0, .int .i64 0, .int .i64 0, .int .i64 0, .slice none 0 0]) ?_ 8 _ rfl; (with_reducible repeat (first | refine zag ?_ _ | refine zai ?_ | refine zaf ?_ _)); refine zbd (cs := #[.int .i64 (wrap64 (t216)), .int .i64 (wrap64 (t220)), .int .i64 x216002_3, .string x216003_3, .string x216004_3, .string x216005_3, .string x216006_3, .string ⟨#[]⟩, .string ⟨#[]⟩, .slice none 0 0, .int .i64 0, .int .i64 0, .int .i64 0, .slice none 0 0]) ?_ 7 _ rfl; (with_reducible repeat (first | refine zag ?_ _ | refine zai ?_ | refine zaf ?_ _)); refine zbd (cs := #[.int .i64 (wrap64 (t216)), .int .i64 (wrap64 (t220)), .int .i64 x216002_3, .string x216003_3, .string x216004_3, .string x216005_3, .string ⟨#[]⟩, .string ⟨#[]⟩, .string ⟨#[]⟩, .slice none 0 0, .int .i64 0, .int .i64 0, .int .i64 0, .slice none 0 0]) ?_ 6 _ rfl; (with_reducible repeat (first | refine zag ?_ _ | refine zai ?_ | refine zaf ?_ _)); refine zbd (cs := #[.int .i64 (wrap64 (t216)), .int .i64 (wrap64 (t220)), .int .i64 x216002_3, .string x216003_3, .string x216004_3, .string ⟨#[]⟩, .string ⟨#[]⟩, .string ⟨#[]⟩, .string ⟨#[]⟩, .slice none 0 0, .int .i64 0, .int .i64 0, .int .i64 0, .slice none 0 0]) ?_ 5 _ rfl; (with_reducible repeat (first | refine zag ?_ _ | refine zai ?_ | refine zaf ?_ _)); refine zbd (cs := #[.int .i64 (wrap64 (t216)), .int .i64 (wrap64 (t220)), .int .i64 x216002_3, .string x216003_3, .string ⟨#[]⟩, .string ⟨#[]⟩, .string ⟨#[]⟩, .string ⟨#[]⟩, .string ⟨#[]⟩, .slice none 0 0, .int .i64 0, .int .i64 0, .int .i64 0, .slice none 0 0]) ?_ 4 _ rfl; (with_reducible repeat (first | refine zag ?_ _ | refine zai ?_ | refine zaf ?_ _)); refine zbd (cs := #[.int .i64 (wrap64 (t216)), .int .i64 (wrap64 (t220)), .int .i64 x216002_3, .string ⟨#[]⟩, .string ⟨#[]⟩, .string ⟨#[]⟩, .string ⟨#[]⟩, .string ⟨#[]⟩, .string ⟨#[]⟩, .slice none 0 0, .int .i64 0, .int .i64 0, .int .i64 0, .slice none 0 0]) ?_ 3 _ rfl; (with_reducible repeat (first | refine zag ?_ _ | refine zai ?_ | refine zaf ?_ _)); refine zbd (cs := #[.int .i64 (wrap64 (t216)), .int .i64 (wrap64 (t220)), .int .i64 0, .string ⟨#[]⟩, .string ⟨#[]⟩, .string ⟨#[]⟩, .string ⟨#[]⟩, .string ⟨#[]⟩, .string ⟨#[]⟩, .slice none 0 0, .int .i64 0, .int .i64 0, .int .i64 0, .slice none 0 0]) ?_ 2 _ rfl; (with_reducible repeat (first | refine zag ?_ _ | refine zai ?_ | refine zaf ?_ _)); refine zbd (cs := #[.int .i64 (wrap64 (t216)), .int .i64 0, .int .i64 0, .string ⟨#[]⟩, .string ⟨#[]⟩, .string ⟨#[]⟩, .string ⟨#[]⟩, .string ⟨#[]⟩, .string ⟨#[]⟩, .slice none 0 0, .int .i64 0, .int .i64 0, .int .i64 0, .slice none 0 0]) ?_ 1 _ rfl; (with_reducible repeat (first | refine zag ?_ _ | refine zai ?_ | refine zaf ?_ _)); refine zbd (cs := #[.int .i64 0, .int .i64 0, .int .i64 0, .string ⟨#[]⟩, .string ⟨#[]⟩, .string ⟨#[]⟩, .string ⟨#[]⟩, .string ⟨#[]⟩, .string ⟨#[]⟩, .slice none 0 0, .int .i64 0, .int .i64 0, .int .i64 0, .slice none 0 0]) ?_ 0 _ rfl; (with_reducible repeat (first | refine zag ?_ _ | refine zai ?_ | refine zaf ?_ _)); exact BK214.out) Try.underlying38 rfl (by kernel_rfl)) rfl ?_
        exact ⟨_, _, by first | rfl | (simp [zay, zax] <;> rfl) | (simp [*, zay, zax] <;> rfl), by (with_reducible repeat (first | apply Kd.zbb | apply Kd.zba | apply Kd.zbf)); exact Kd.zbh (Kd.zbk (p := ⟨gb214, 13, none⟩) (Kd.zbk (p := ⟨gb214, 12, none⟩) (Kd.zbk (p := ⟨gb214, 11, none⟩) (Kd.zbk (p := ⟨gb214, 10, none⟩) (Kd.zbk (p := ⟨gb214, 9, none⟩) (Kd.zbk (p := ⟨gb214, 8, none⟩) (Kd.zbk (p := ⟨gb214, 7, none⟩) (Kd.zbk (p := ⟨gb214, 6, none⟩) (Kd.zbk (p := ⟨gb214, 5, none⟩) (Kd.zbk (p := ⟨gb214, 4, none⟩) (Kd.zbk (p := ⟨gb214, 3, none⟩) (Kd.zbk (p := ⟨gb214, 2, none⟩) (Kd.zbk (p := ⟨gb214, 1, none⟩) (Kd.zbk (p := ⟨gb214, 0, none⟩) (Kd.zco HO_216009.out BK214.out (by decide)) (fun _ hk => hk.2) (.int .i64 (wrap64 (t216)))) (fun _ hk => hk.2) (.int .i64 (wrap64 (t220)))) (fun _ hk => hk.2) (.int .i64 x216002_3)) (fun _ hk => hk.2) (.string x216003_3)) (fun _ hk => hk.2) (.string x216004_3)) (fun _ hk => hk.2) (.string x216005_3)) (fun _ hk => hk.2) (.string x216006_3)) (fun _ hk => hk.2) (.string x216007_3)) (fun _ hk => hk.2) (.string x216008_3)) (fun _ hk => hk.2) (.slice Ao31 x216009_3.length co31)) (fun _ hk => hk.2) (.int .i64 x216010_3)) (fun _ hk => hk.2) (.int .i64 x216011_3)) (fun _ hk => hk.2) (.int .i64 x216012_3)) (fun _ hk => hk.2) (.slice Ao32 x216013_2.length co32)) (fun _ hk => trivial), by (with_reducible repeat (first | apply Kd.zbb | apply Kd.zba | apply Kd.zbf)); exact Kd.zbh (Kd.zbk (p := ⟨gb214, 13, none⟩) (Kd.zbk (p := ⟨gb214, 12, none⟩) (Kd.zbk (p := ⟨gb214, 11, none⟩) (Kd.zbk (p := ⟨gb214, 10, none⟩) (Kd.zbk (p := ⟨gb214, 9, none⟩) (Kd.zbk (p := ⟨gb214, 8, none⟩) (Kd.zbk (p := ⟨gb214, 7, none⟩) (Kd.zbk (p := ⟨gb214, 6, none⟩) (Kd.zbk (p := ⟨gb214, 5, none⟩) (Kd.zbk (p := ⟨gb214, 4, none⟩) (Kd.zbk (p := ⟨gb214, 3, none⟩) (Kd.zbk (p := ⟨gb214, 2, none⟩) (Kd.zbk (p := ⟨gb214, 1, none⟩) (Kd.zbk (p := ⟨gb214, 0, none⟩) (Kd.zco HO_216013.out BK214.out (by decide)) (fun _ hk => hk.2) (.int .i64 (wrap64 (t216)))) (fun _ hk => hk.2) (.int .i64 (wrap64 (t220)))) (fun _ hk => hk.2) (.int .i64 x216002_3)) (fun _ hk => hk.2) (.string x216003_3)) (fun _ hk => hk.2) (.string x216004_3)) (fun _ hk => hk.2) (.string x216005_3)) (fun _ hk => hk.2) (.string x216006_3)) (fun _ hk => hk.2) (.string x216007_3)) (fun _ hk => hk.2) (.string x216008_3)) (fun _ hk => hk.2) (.slice Ao31 x216009_3.length co31)) (fun _ hk => hk.2) (.int .i64 x216010_3)) (fun _ hk => hk.2) (.int .i64 x216011_3)) (fun _ hk => hk.2) (.int .i64 x216012_3)) (fun _ hk => hk.2) (.slice Ao32 x216013_2.length co32)) (fun _ hk => trivial), by repeat (first | (with_reducible first | exact HI0.out | apply IsS50.alloc | apply IsS50.drewN | apply IsS50.drew | apply IsS50.zbx | apply IsS50.zbv | apply IsS50.zch | refine IsS50.far ?_ NB0_214.out _ | refine IsS50.far ?_ NB0_215.out _) | exact HI0.out), by repeat (first | (with_reducible first | exact HB.out | apply zad | apply zac | apply zae | refine zah ?_ (IsS50.ge HI0.out) | refine zah ?_ GE214.out | refine zah ?_ GE215.out) | exact HB.out), by repeat (first | (with_reducible first | exact HK.out | apply KeepBut.set_ | apply zas | apply zav | apply zar | refine zbg ?_ GW214.out _ | refine zbg ?_ GW215.out _) | exact HK.out)⟩
       ·replace c24 := Bool.eq_false_iff.mpr c24
        subst c24
        have H1 : ((zaj.f k2 s0_0 x1001_2 false x1003_2).bind fun bt244 => (if x216013_2.length < 17592186044416 then (zaw.l0 k2 t240 (wrap64 (x6_2 + 1)) s0_0 bt244.2.1 bt244.2.2.1 bt244.2.2.2 (wrap64 (t216)) (wrap64 (t220)) x216002_3 x216003_3 x216004_3 x216005_3 x216006_3 x216007_3 x216008_3 x216009_3 x216010_3 x216011_3 x216012_3 (x216013_2 ++ [wrap64 (bt244.1)])) else (none))) = some (r1, r2, r3, r4, r5, r6, r7, r8, r9, r10, r11, r12, r13, r14, r15, r16, r17) := by rw [if_neg (show ¬ (false = true) by decide)] at H; exact H
        clear H
        have H := H1
        clear H1
        replace H := Option.bind_eq_some_iff.mp H
        obtain ⟨⟨t244, t245, t246, t247⟩, A330, H⟩ := H
        replace H : (if x216013_2.length < 17592186044416 then (zaw.l0 k2 t240 (wrap64 (x6_2 + 1)) s0_0 t245 t246 t247 (wrap64 (t216)) (wrap64 (t220)) x216002_3 x216003_3 x216004_3 x216005_3 x216006_3 x216007_3 x216008_3 x216009_3 x216010_3 x216011_3 x216012_3 (x216013_2 ++ [wrap64 (t244)])) else (none)) = some (r1, r2, r3, r4, r5, r6, r7, r8, r9, r10, r11, r12, r13, r14, r15, r16, r17) := H
        have A33 := Aside0.mk A330
        clear A330
        by_cases c34 : x216013_2.length < 17592186044416
        ·rw [if_pos c34] at H
         have LMc34 := Aside0.mk c34
         clear c34
         obtain ⟨y248, hy248⟩ : ∃ y_ : List Int, y_ = (x216013_2 ++ [wrap64 (t244)]) := ⟨_, rfl⟩
         replace H : (zaw.l0 k2 t240 (wrap64 (x6_2 + 1)) s0_0 t245 t246 t247 (wrap64 (t216)) (wrap64 (t220)) x216002_3 x216003_3 x216004_3 x216005_3 x216006_3 x216007_3 x216008_3 x216009_3 x216010_3 x216011_3 x216012_3 y248) = some (r1, r2, r3, r4, r5, r6, r7, r8, r9, r10, r11, r12, r13, r14, r15, r16, r17) := by first | (rw [hy248]; with_reducible exact H) | (have H2_ := (Option.bind_some _ _).symm.trans H; rw [hy248]; with_reducible exact H2_) | (have H2_ := (Option.bind_some _ _).symm.trans H; with_reducible exact H2_) | with_reducible exact H | (rw [hy248]; exact H) | exact H
         have Ny248 := Aside0.mk hy248
         clear hy248
         have H' := Aside0.mk H
         clear H
         obtain ⟨ASz35_0, cSz35_0, HGz35, hgz35, ⟨HSz35_0, -, -, -⟩⟩ := HI0.out
         have hcz35_0 := zcb HGz35
         have hcz35_1 := zca HGz35
         have hcz35_2 := zcf HGz35
         have hcz35_3 := zce HGz35
         have hfz35_1 := zab HGz35 1
         have hfz35_2 := zab HGz35 2
         have hfz35_3 := zab HGz35 3
         clear HGz35 hgz35
         go_wp2_with (first | ((with_reducible refine zbe (f := 44) rfl ?_); refine zcg (some 39) rfl rfl Try.func44 (by kernel_rfl) rfl #[.pointer (some ⟨g, 0, none⟩)] rfl (by (try simp only [List.map_toArray, List.map_cons, List.map_nil]); first | done | rfl | (simp only [List.length_drop, List.length_take]; rfl)) ?_; (with_reducible refine (zaj.calls k2 (As0 := As0) (cs0 := cs0) g s0_0 x1001_2 false x1003_2 t244 t245 t246 t247 w0 _ ?side1 ?side2 A33.out).mono ?_); (case side1 => repeat (first | (with_reducible first | exact HI0.out | apply IsS50.alloc | apply IsS50.drewN | apply IsS50.drew | apply IsS50.zbx | apply IsS50.zbv | apply IsS50.zch | refine IsS50.far ?_ NB0_214.out _ | refine IsS50.far ?_ NB0_215.out _) | exact HI0.out)); (case side2 => repeat (first | (with_reducible first | exact HB.out | apply zad | apply zac | apply zae | refine zah ?_ (IsS50.ge HI0.out) | refine zah ?_ GE214.out | refine zah ?_ GE215.out) | exact HB.out)); rintro e w36 ⟨rfl, hi, hb, hk⟩; refine ⟨_, rfl, ?_⟩; have n0_ := Aside0.mk (Kd.zbh (Kd.zdg (IsS50.apart (show IsS50 As0 cs0 w0 _ g s0_0 x1001_2 false x1003_2 from by repeat (first | (with_reducible first | exact HI0.out | apply IsS50.alloc | apply IsS50.drewN | apply IsS50.drew | apply IsS50.zbx | apply IsS50.zbv | apply IsS50.zch | refine IsS50.far ?_ NB0_214.out _ | refine IsS50.far ?_ NB0_215.out _) | exact HI0.out)) (by (with_reducible repeat (first | apply Kd.zbb | apply Kd.zba | apply Kd.zbf)); exact HO_216009.out) (by decide)) hk (fun _ h => h.2)) (fun _ h => h.1)); have n1_ := Aside0.mk (Kd.zbh (Kd.zdg (IsS50.apart (show IsS50 As0 cs0 w0 _ g s0_0 x1001_2 false x1003_2 from by repeat (first | (with_reducible first | exact HI0.out | apply IsS50.alloc | apply IsS50.drewN | apply IsS50.drew | apply IsS50.zbx | apply IsS50.zbv | apply IsS50.zch | refine IsS50.far ?_ NB0_214.out _ | refine IsS50.far ?_ NB0_215.out _) | exact HI0.out)) (by (with_reducible repeat (first | apply Kd.zbb | apply Kd.zba | apply Kd.zbf)); exact HO_216013.out) (by decide)) hk (fun _ h => h.2)) (fun _ h => h.1)); have n2_ := Aside0.mk (KeepBut.blk hk (g' := gb214) (o := .cells #[.int .i64 0, .int .i64 0, .int .i64 0, .string ⟨#[]⟩, .string ⟨#[]⟩, .string ⟨#[]⟩, .string ⟨#[]⟩, .string ⟨#[]⟩, .string ⟨#[]⟩, .slice none 0 0, .int .i64 0, .int .i64 0, .int .i64 0, .slice none 0 0] 38 (0, 0)) (by (with_reducible repeat (first | refine zag ?_ _ | refine zai ?_ | refine zaf ?_ _)); exact BK214.out) NB214_0.out (by simp)); have n3_ := Aside0.mk (KeepBut.blk hk (g' := gb215) (o := .cells #[.int .i64 (wrap64 (t216)), .int .i64 (wrap64 (t220)), .int .i64 x216002_3, .string x216003_3, .string x216004_3, .string x216005_3, .string x216006_3, .string x216007_3, .string x216008_3, u216009, .int .i64 x216010_3, .int .i64 x216011_3, .int .i64 x216012_3, u216013] 38 (0, 0)) (by (with_reducible repeat (first | refine zag ?_ _ | refine zai ?_ | refine zaf ?_ _)); exact BK215.out) NB215_0.out (by simp)); have n4_ := Aside0.mk (KeepBut.trans (by repeat (first | (with_reducible first | exact HK.out | apply KeepBut.set_ | apply zas | apply zav | apply zar | refine zbg ?_ GW214.out _ | refine zbg ?_ GW215.out _) | exact HK.out)) hk (.inl rfl)); have n5_ := Aside0.mk (hb); have n6_ := Aside0.mk (hi); clear HO_216009; clear HO_216013; clear BK214; clear BK215; clear HK; clear HB; clear HI0; have HO_216009 := n0_; have HO_216013 := n1_; have BK214 := n2_; have BK215 := n3_; have HK := n4_; have HB := n5_; have HI0 := n6_; clear n0_ n1_ n2_ n3_ n4_ n5_ n6_; (try clear hb); (try clear hb2); (try clear hk); (try clear hi); have hnb37 := NB215_214.out; have hnc37 := NB214_215.out; have hnb38 := NB215_0.out; have hnc38 := NB0_215.out; have hcz39_0 : w36.cell? ⟨gb215, 0, none⟩ = some (.int .i64 (wrap64 (t216))) := (zaa BK215.out 0).trans rfl; have hcz39_1 : w36.cell? ⟨gb215, 1, none⟩ = some (.int .i64 (wrap64 (t220))) := (zaa BK215.out 1).trans rfl; have hcz39_2 : w36.cell? ⟨gb215, 2, none⟩ = some (.int .i64 x216002_3) := (zaa BK215.out 2).trans rfl; have hcz39_3 : w36.cell? ⟨gb215, 3, none⟩ = some (.string x216003_3) := (zaa BK215.out 3).trans rfl; have hcz39_4 : w36.cell? ⟨gb215, 4, none⟩ = some (.string x216004_3) := (zaa BK215.out 4).trans rfl; have hcz39_5 : w36.cell? ⟨gb215, 5, none⟩ = some (.string x216005_3) := (zaa BK215.out 5).trans rfl; have hcz39_6 : w36.cell? ⟨gb215, 6, none⟩ = some (.string x216006_3) := (zaa BK215.out 6).trans rfl; have hcz39_7 : w36.cell? ⟨gb215, 7, none⟩ = some (.string x216007_3) := (zaa BK215.out 7).trans rfl; have hcz39_8 : w36.cell? ⟨gb215, 8, none⟩ = some (.string x216008_3) := (zaa BK215.out 8).trans rfl; have hcz39_9 : w36.cell? ⟨gb215, 9, none⟩ = some (u216009) := (zaa BK215.out 9).trans rfl; have hcz39_10 : w36.cell? ⟨gb215, 10, none⟩ = some (.int .i64 x216010_3) := (zaa BK215.out 10).trans rfl; have hcz39_11 : w36.cell? ⟨gb215, 11, none⟩ = some (.int .i64 x216011_3) := (zaa BK215.out 11).trans rfl; have hcz39_12 : w36.cell? ⟨gb215, 12, none⟩ = some (.int .i64 x216012_3) := (zaa BK215.out 12).trans rfl; have hcz39_13 : w36.cell? ⟨gb215, 13, none⟩ = some (u216013) := (zaa BK215.out 13).trans rfl; have hfz39_0 := zab BK215.out 0; have hfz39_1 := zab BK215.out 1; have hfz39_2 := zab BK215.out 2; have hfz39_3 := zab BK215.out 3; have hfz39_4 := zab BK215.out 4; have hfz39_5 := zab BK215.out 5; have hfz39_6 := zab BK215.out 6; have hfz39_7 := zab BK215.out 7; have hfz39_8 := zab BK215.out 8; have hfz39_9 := zab BK215.out 9; have hfz39_10 := zab BK215.out 10; have hfz39_11 := zab BK215.out 11; have hfz39_12 := zab BK215.out 12; have hfz39_13 := zab BK215.out 13) | ((with_reducible refine zcd (b := .append) (xs := #[.tmp 42, .tmp 44]) rfl ?_); at_builtin; refine Kd.zdd (Kd.int .i64) w.heap.size rfl (.tmp 42) (.tmp 44) 36 3 (.int .i64 0) 8 rfl Try.underlying36 info3 rfl (by decide) (by omega) u216013 x216013_2 (wrap64 (t244)) [.int .i64 (wrap64 (t244))] (fun _ => True) (fun _ => False) rfl rfl ?aP (fun _ hk => hk.elim) ?aF ?aO (Below.refl _ _) ?aS ?aL ?_; (case aP => exact rfl); (case aF => exact (fun _ _ => trivial)); (case aO => exact (by (with_reducible repeat (first | apply Kd.zbb | apply Kd.zba | apply Kd.zbf)); exact HO_216013.out)); (case aS => exact (zdt (w := w) (g := g) (row := none) (by repeat (first | (with_reducible first | exact HK.out | apply KeepBut.set_ | apply zas | apply zav | apply zar | refine zbg ?_ GW214.out _ | refine zbg ?_ GW215.out _) | exact HK.out)))); (case aL => have := LMc34.out; omega); intro v249 w40 ho hb hg hat; rw [← Ny248.out] at ho; have n0_ := Aside0.mk (Kd.R_over' (by (with_reducible repeat (first | apply Kd.zbb | apply Kd.zba | apply Kd.zbf)); exact HO_216009.out) (Kd.zjb (by (with_reducible repeat (first | apply Kd.zbb | apply Kd.zba | apply Kd.zbf)); exact HO_216013.out)) (by decide) hg); have n1_ := Aside0.mk (zbm (g := gb214) (o := .cells #[.int .i64 0, .int .i64 0, .int .i64 0, .string ⟨#[]⟩, .string ⟨#[]⟩, .string ⟨#[]⟩, .string ⟨#[]⟩, .string ⟨#[]⟩, .string ⟨#[]⟩, .slice none 0 0, .int .i64 0, .int .i64 0, .int .i64 0, .slice none 0 0] 38 (0, 0)) (by (with_reducible repeat (first | refine zag ?_ _ | refine zai ?_ | refine zaf ?_ _)); exact BK214.out) hg (Kd.R_ne HO_216013.out BK214.out (by decide))); have n2_ := Aside0.mk (zbm (g := gb215) (o := .cells #[.int .i64 (wrap64 (t216)), .int .i64 (wrap64 (t220)), .int .i64 x216002_3, .string x216003_3, .string x216004_3, .string x216005_3, .string x216006_3, .string x216007_3, .string x216008_3, u216009, .int .i64 x216010_3, .int .i64 x216011_3, .int .i64 x216012_3, u216013] 38 (0, 0)) (by (with_reducible repeat (first | refine zag ?_ _ | refine zai ?_ | refine zaf ?_ _)); exact BK215.out) hg (Kd.R_ne HO_216013.out BK215.out (by decide))); have n3_ := Aside0.mk (IsS50.grown (show IsS50 As0 cs0 w0 _ g s0_0 t245 t246 t247 from by repeat (first | (with_reducible first | exact HI0.out | apply IsS50.alloc | apply IsS50.drewN | apply IsS50.drew | apply IsS50.zbx | apply IsS50.zbv | apply IsS50.zch | refine IsS50.far ?_ NB0_214.out _ | refine IsS50.far ?_ NB0_215.out _) | exact HI0.out)) hg (IsS50.own_ne HI0.out HO_216013.out (by decide))); have n4_ := Aside0.mk (below_weaken (by repeat (first | (with_reducible first | exact HB.out | apply zad | apply zac | apply zae | refine zah ?_ (IsS50.ge HI0.out) | refine zah ?_ GE214.out | refine zah ?_ GE215.out) | exact HB.out)) HL.out hb); have n5_ := Aside0.mk (KeepBut.trans (by repeat (first | (with_reducible first | exact HK.out | apply KeepBut.set_ | apply zas | apply zav | apply zar | refine zbg ?_ GW214.out _ | refine zbg ?_ GW215.out _) | exact HK.out)) (KeepBut.zec hg g) (Kd.R_base2 HO_216013.out)); have n6_ := Aside0.mk (ho); clear HO_216009; clear BK214; clear BK215; clear HI0; clear HB; clear HK; clear HO_216013; have HO_216009 := n0_; have BK214 := n1_; have BK215 := n2_; have HI0 := n3_; have HB := n4_; have HK := n5_; have HO250 := n6_; clear n0_ n1_ n2_ n3_ n4_ n5_ n6_; clear ho hb hg hat; obtain ⟨Ao41, co41, eo41⟩ := Kd.zbu HO250.out; subst eo41; have hcz42_0 : w40.cell? ⟨gb215, 0, none⟩ = some (.int .i64 (wrap64 (t216))) := (zaa BK215.out 0).trans rfl; have hcz42_1 : w40.cell? ⟨gb215, 1, none⟩ = some (.int .i64 (wrap64 (t220))) := (zaa BK215.out 1).trans rfl; have hcz42_2 : w40.cell? ⟨gb215, 2, none⟩ = some (.int .i64 x216002_3) := (zaa BK215.out 2).trans rfl; have hcz42_3 : w40.cell? ⟨gb215, 3, none⟩ = some (.string x216003_3) := (zaa BK215.out 3).trans rfl; have hcz42_4 : w40.cell? ⟨gb215, 4, none⟩ = some (.string x216004_3) := (zaa BK215.out 4).trans rfl; have hcz42_5 : w40.cell? ⟨gb215, 5, none⟩ = some (.string x216005_3) := (zaa BK215.out 5).trans rfl; have hcz42_6 : w40.cell? ⟨gb215, 6, none⟩ = some (.string x216006_3) := (zaa BK215.out 6).trans rfl; have hcz42_7 : w40.cell? ⟨gb215, 7, none⟩ = some (.string x216007_3) := (zaa BK215.out 7).trans rfl; have hcz42_8 : w40.cell? ⟨gb215, 8, none⟩ = some (.string x216008_3) := (zaa BK215.out 8).trans rfl; have hcz42_9 : w40.cell? ⟨gb215, 9, none⟩ = some (u216009) := (zaa BK215.out 9).trans rfl; have hcz42_10 : w40.cell? ⟨gb215, 10, none⟩ = some (.int .i64 x216010_3) := (zaa BK215.out 10).trans rfl; have hcz42_11 : w40.cell? ⟨gb215, 11, none⟩ = some (.int .i64 x216011_3) := (zaa BK215.out 11).trans rfl; have hcz42_12 : w40.cell? ⟨gb215, 12, none⟩ = some (.int .i64 x216012_3) := (zaa BK215.out 12).trans rfl; have hcz42_13 : w40.cell? ⟨gb215, 13, none⟩ = some (u216013) := (zaa BK215.out 13).trans rfl; have hfz42_0 := zab BK215.out 0; have hfz42_1 := zab BK215.out 1; have hfz42_2 := zab BK215.out 2; have hfz42_3 := zab BK215.out 3; have hfz42_4 := zab BK215.out 4; have hfz42_5 := zab BK215.out 5; have hfz42_6 := zab BK215.out 6; have hfz42_7 := zab BK215.out 7; have hfz42_8 := zab BK215.out 8; have hfz42_9 := zab BK215.out 9; have hfz42_10 := zab BK215.out 10; have hfz42_11 := zab BK215.out 11; have hfz42_12 := zab BK215.out 12; have hfz42_13 := zab BK215.out 13))
         go_roundg k2
         case measure => have := HJ3.out; have := HK2.out; omega
         case rel => exact ⟨(wrap64 (x6_2 + 1)), (t245), (t246), (t247), (y248), (.slice Ao41 y248.length co41), (by first | rfl | (simp; done) | (simp [*]; done)), H', ⟨by have := HJ3.out; have := HK2.out; omega⟩, ⟨by (with_reducible repeat (first | apply Kd.zbb | apply Kd.zba | apply Kd.zbf)); exact Kd.zbh (Kd.zbk (p := ⟨gb215, 13, none⟩) (Kd.zco HO_216009.out BK215.out (by decide)) (fun _ hk => hk.2) (.slice Ao41 y248.length co41)) (fun _ hk => trivial)⟩, ⟨by (with_reducible repeat (first | apply Kd.zbb | apply Kd.zba | apply Kd.zbf)); exact Kd.zbh (Kd.zbk (p := ⟨gb215, 13, none⟩) (Kd.zco HO250.out BK215.out (by decide)) (fun _ hk => hk.2) (.slice Ao41 y248.length co41)) (fun _ hk => trivial)⟩, ⟨by (with_reducible repeat (first | refine zag ?_ _ | refine zai ?_ | refine zaf ?_ _)); refine zbi ?_ NB214_215.out _; (with_reducible repeat (first | refine zag ?_ _ | refine zai ?_ | refine zaf ?_ _)); exact BK214.out⟩, ⟨by (with_reducible repeat (first | refine zag ?_ _ | refine zai ?_ | refine zaf ?_ _)); refine zbd (cs := #[.int .i64 (wrap64 (t216)), .int .i64 (wrap64 (t220)), .int .i64 x216002_3, .string x216003_3, .string x216004_3, .string x216005_3, .string x216006_3, .string x216007_3, .string x216008_3, u216009, .int .i64 x216010_3, .int .i64 x216011_3, .int .i64 x216012_3, u216013]) ?_ 13 _ rfl; (with_reducible repeat (first | refine zag ?_ _ | refine zai ?_ | refine zaf ?_ _)); exact BK215.out⟩, ⟨by repeat (first | (with_reducible first | exact HI0.out | apply IsS50.alloc | apply IsS50.drewN | apply IsS50.drew | apply IsS50.zbx | apply IsS50.zbv | apply IsS50.zch | refine IsS50.far ?_ NB0_214.out _ | refine IsS50.far ?_ NB0_215.out _) | exact HI0.out)⟩, ⟨by repeat (first | (with_reducible first | exact HK.out | apply KeepBut.set_ | apply zas | apply zav | apply zar | refine zbg ?_ GW214.out _ | refine zbg ?_ GW215.out _) | exact HK.out)⟩, ⟨by repeat (first | (with_reducible first | exact HB.out | apply zad | apply zac | apply zae | refine zah ?_ (IsS50.ge HI0.out) | refine zah ?_ GE214.out | refine zah ?_ GE215.out) | exact HB.out)⟩⟩
        ·rw [if_neg c34] at H
         exact absurd H (by simp)
      ·rw [if_neg c23] at H
       have c23b0 : decide (x6_2 < t240) = false := decide_eq_false c23
       clear c23
       simp only [Option.some.injEq, Prod.mk.injEq] at H
       obtain ⟨rfl, rfl, rfl, rfl, rfl, rfl, rfl, rfl, rfl, rfl, rfl, rfl, rfl, rfl, rfl, rfl, rfl⟩ := H
       have hnb43 := NB215_214.out
       have hnc43 := NB214_215.out
       have hnb44 := NB215_0.out
       have hnc44 := NB0_215.out
       have hcz45_0 : wr.cell? ⟨gb215, 0, none⟩ = some (.int .i64 (wrap64 (t216))) := (zaa BK215.out 0).trans rfl
       have hcz45_1 : wr.cell? ⟨gb215, 1, none⟩ = some (.int .i64 (wrap64 (t220))) := (zaa BK215.out 1).trans rfl
       have hcz45_2 : wr.cell? ⟨gb215, 2, none⟩ = some (.int .i64 x216002_3) := (zaa BK215.out 2).trans rfl
       have hcz45_3 : wr.cell? ⟨gb215, 3, none⟩ = some (.string x216003_3) := (zaa BK215.out 3).trans rfl
       have hcz45_4 : wr.cell? ⟨gb215, 4, none⟩ = some (.string x216004_3) := (zaa BK215.out 4).trans rfl
       have hcz45_5 : wr.cell? ⟨gb215, 5, none⟩ = some (.string x216005_3) := (zaa BK215.out 5).trans rfl
       have hcz45_6 : wr.cell? ⟨gb215, 6, none⟩ = some (.string x216006_3) := (zaa BK215.out 6).trans rfl
       have hcz45_7 : wr.cell? ⟨gb215, 7, none⟩ = some (.string x216007_3) := (zaa BK215.out 7).trans rfl
       have hcz45_8 : wr.cell? ⟨gb215, 8, none⟩ = some (.string x216008_3) := (zaa BK215.out 8).trans rfl
       have hcz45_9 : wr.cell? ⟨gb215, 9, none⟩ = some (u216009) := (zaa BK215.out 9).trans rfl
       have hcz45_10 : wr.cell? ⟨gb215, 10, none⟩ = some (.int .i64 x216010_3) := (zaa BK215.out 10).trans rfl
       have hcz45_11 : wr.cell? ⟨gb215, 11, none⟩ = some (.int .i64 x216011_3) := (zaa BK215.out 11).trans rfl
       have hcz45_12 : wr.cell? ⟨gb215, 12, none⟩ = some (.int .i64 x216012_3) := (zaa BK215.out 12).trans rfl
       have hcz45_13 : wr.cell? ⟨gb215, 13, none⟩ = some (u216013) := (zaa BK215.out 13).trans rfl
       have hfz45_0 := zab BK215.out 0
       have hfz45_1 := zab BK215.out 1
       have hfz45_2 := zab BK215.out 2
       have hfz45_3 := zab BK215.out 3
       have hfz45_4 := zab BK215.out 4
       have hfz45_5 := zab BK215.out 5
       have hfz45_6 := zab BK215.out 6
       have hfz45_7 := zab BK215.out 7
       have hfz45_8 := zab BK215.out 8
       have hfz45_9 := zab BK215.out 9
       have hfz45_10 := zab BK215.out 10
       have hfz45_11 := zab BK215.out 11
       have hfz45_12 := zab BK215.out 12
       have hfz45_13 := zab BK215.out 13
       have hnb46 := NB214_0.out
       have hnc46 := NB0_214.out
       have hcz47_0 : wr.cell? ⟨gb214, 0, none⟩ = some (.int .i64 0) := (zaa BK214.out 0).trans rfl
       have hcz47_1 : wr.cell? ⟨gb214, 1, none⟩ = some (.int .i64 0) := (zaa BK214.out 1).trans rfl
       have hcz47_2 : wr.cell? ⟨gb214, 2, none⟩ = some (.int .i64 0) := (zaa BK214.out 2).trans rfl
       have hcz47_3 : wr.cell? ⟨gb214, 3, none⟩ = some (.string ⟨#[]⟩) := (zaa BK214.out 3).trans rfl
       have hcz47_4 : wr.cell? ⟨gb214, 4, none⟩ = some (.string ⟨#[]⟩) := (zaa BK214.out 4).trans rfl
       have hcz47_5 : wr.cell? ⟨gb214, 5, none⟩ = some (.string ⟨#[]⟩) := (zaa BK214.out 5).trans rfl
       have hcz47_6 : wr.cell? ⟨gb214, 6, none⟩ = some (.string ⟨#[]⟩) := (zaa BK214.out 6).trans rfl
       have hcz47_7 : wr.cell? ⟨gb214, 7, none⟩ = some (.string ⟨#[]⟩) := (zaa BK214.out 7).trans rfl
       have hcz47_8 : wr.cell? ⟨gb214, 8, none⟩ = some (.string ⟨#[]⟩) := (zaa BK214.out 8).trans rfl
       have hcz47_9 : wr.cell? ⟨gb214, 9, none⟩ = some (.slice none 0 0) := (zaa BK214.out 9).trans rfl
       have hcz47_10 : wr.cell? ⟨gb214, 10, none⟩ = some (.int .i64 0) := (zaa BK214.out 10).trans rfl
       have hcz47_11 : wr.cell? ⟨gb214, 11, none⟩ = some (.int .i64 0) := (zaa BK214.out 11).trans rfl
       have hcz47_12 : wr.cell? ⟨gb214, 12, none⟩ = some (.int .i64 0) := (zaa BK214.out 12).trans rfl
       have hcz47_13 : wr.cell? ⟨gb214, 13, none⟩ = some (.slice none 0 0) := (zaa BK214.out 13).trans rfl
       have hfz47_0 := zab BK214.out 0
       have hfz47_1 := zab BK214.out 1
       have hfz47_2 := zab BK214.out 2
       have hfz47_3 := zab BK214.out 3
       have hfz47_4 := zab BK214.out 4
       have hfz47_5 := zab BK214.out 5
       have hfz47_6 := zab BK214.out 6
       have hfz47_7 := zab BK214.out 7
       have hfz47_8 := zab BK214.out 8
       have hfz47_9 := zab BK214.out 9
       have hfz47_10 := zab BK214.out 10
       have hfz47_11 := zab BK214.out 11
       have hfz47_12 := zab BK214.out 12
       have hfz47_13 := zab BK214.out 13
       obtain ⟨Ao48, co48, eo48⟩ := Kd.zbu HO_216009.out
       subst eo48
       obtain ⟨Ao49, co49, eo49⟩ := Kd.zbu HO_216013.out
       subst eo49
       go_wp2
       refine bodyPost_ret (results_cell_row rfl _ _ gb214 38 #[.int .i64 (wrap64 (t216)), .int .i64 (wrap64 (t220)), .int .i64 x216002_3, .string x216003_3, .string x216004_3, .string x216005_3, .string x216006_3, .string x216007_3, .string x216008_3, .slice Ao48 x216009_3.length co48, .int .i64 x216010_3, .int .i64 x216011_3, .int .i64 x216012_3, .slice Ao49 x216013_2.length co49] (0, 0) _ rfl (by (with_reducible repeat (first | refine zag ?_ _ | refine zai ?_ | refine zaf ?_ _)); refine zbd (cs := #[.int .i64 (wrap64 (t216)), .int .i64 (wrap64 (t220)), .int .i64 x216002_3, .string x216003_3, .string x216004_3, .string x216005_3, .string x216006_3, .string x216007_3, .string x216008_3, .slice Ao48 x216009_3.length co48, .int .i64 x216010_3, .int .i64 x216011_3, .int .i64 x216012_3, .slice none 0 0]) ?_ 13 _ rfl; (with_reducible repeat (first | refine zag ?_ _ | refine zai ?_ | refine zaf ?_ _)); refine zbd (cs := #[.int .i64 (wrap64 (t216)), .int .i64 (wrap64 (t220)), .int .i64 x216002_3, .string x216003_3, .string x216004_3, .string x216005_3, .string x216006_3, .string x216007_3, .string x216008_3, .slice Ao48 x216009_3.length co48, .int .i64 x216010_3, .int .i64 x216011_3, .int .i64 0, .slice none 0 0]) ?_ 12 _ rfl; (with_reducible repeat (first | refine zag ?_ _ | refine zai ?_ | refine zaf ?_ _)); refine zbd (cs := #[.int .i64 (wrap64 (t216)), .int .i64 (wrap64 (t220)), .int .i64 x216002_3, .string x216003_3, .string x216004_3, .string x216005_3, .string x216006_3, .string x216007_3, .string x216008_3, .slice Ao48 x216009_3.length co48, .int .i64 x216010_3, .int .i64 0, .int .i64 0, .slice none 0 0]) ?_ 11 _ rfl; (with_reducible repeat (first | refine zag ?_ _ | refine zai ?_ | refine zaf ?_ _)); refine zbd (cs := #[.int .i64 (wrap64 (t216)), .int .i64 (wrap64 (t220)), .int .i64 x216002_3, .string x216003_3, .string x216004_3, .string x216005_3, .string x216006_3, .string x216007_3, .string x216008_3, .slice Ao48 x216009_3.length co48, .int .i64 0, .int .i64 0, .int .i64 0, .slice none 0 0]) ?_ 10 _ rfl; (with_reducible repeat (first | refine zag ?_ _ | refine zai ?_ | refine zaf ?_ _)); refine zbd (cs := #[.int .i64 (wrap64 (t216)), .int .i64 (wrap64 (t220)), .int .i64 x216002_3, .string x216003_3, .string x216004_3, .string x216005_3, .string x216006_3, .string x216007_3, .string x216008_3, .slice none 0 0, .int .i64 0, .int .i64 0, .int .i64 0, .slice none 0 0]) ?_ 9 _ rfl; (with_reducible repeat (first | refine zag ?_ _ | refine zai ?_ | refine zaf ?_ _)); refine zbd (cs := #[.int .i64 (wrap64 (t216)), .int .i64 (wrap64 (t220)), .int .i64 x216002_3, .string x216003_3, .string x216004_3, .string x216005_3, .string x216006_3, .string x216007_3, .string ⟨#[]⟩, .slice none 0 0, .int .i64 0, .int .i64 0, .int .i64 0, .slice none 0 0]) ?_ 8 _ rfl; (with_reducible repeat (first | refine zag ?_ _ | refine zai ?_ | refine zaf ?_ _)); refine zbd (cs := #[.int .i64 (wrap64 (t216)), .int .i64 (wrap64 (t220)), .int .i64 x216002_3, .string x216003_3, .string x216004_3, .string x216005_3, .string x216006_3, .string ⟨#[]⟩, .string ⟨#[]⟩, .slice none 0 0, .int .i64 0, .int .i64 0, .int .i64 0, .slice none 0 0]) ?_ 7 _ rfl; (with_reducible repeat (first | refine zag ?_ _ | refine zai ?_ | refine zaf ?_ _)); refine zbd (cs := #[.int .i64 (wrap64 (t216)), .int .i64 (wrap64 (t220)), .int .i64 x216002_3, .string x216003_3, .string x216004_3, .string x216005_3, .string ⟨#[]⟩, .string ⟨#[]⟩, .string ⟨#[]⟩, .slice none 0 0, .int .i64 0, .int .i64 0, .int .i64 0, .slice none 0 0]) ?_ 6 _ rfl; (with_reducible repeat (first | refine zag ?_ _ | refine zai ?_ | refine zaf ?_ _)); refine zbd (cs := #[.int .i64 (wrap64 (t216)), .int .i64 (wrap64 (t220)), .int .i64 x216002_3, .string x216003_3, .string x216004_3, .string ⟨#[]⟩, .string ⟨#[]⟩, .string ⟨#[]⟩, .string ⟨#[]⟩, .slice none 0 0, .int .i64 0, .int .i64 0, .int .i64 0, .slice none 0 0]) ?_ 5 _ rfl; (with_reducible repeat (first | refine zag ?_ _ | refine zai ?_ | refine zaf ?_ _)); refine zbd (cs := #[.int .i64 (wrap64 (t216)), .int .i64 (wrap64 (t220)), .int .i64 x216002_3, .string x216003_3, .string ⟨#[]⟩, .string ⟨#[]⟩, .string ⟨#[]⟩, .string ⟨#[]⟩, .string ⟨#[]⟩, .slice none 0 0, .int .i64 0, .int .i64 0, .int .i64 0, .slice none 0 0]) ?_ 4 _ rfl; (with_reducible repeat (first | refine zag ?_ _ | refine zai ?_ | refine zaf ?_ _)); refine zbd (cs := #[.int .i64 (wrap64 (t216)), .int .i64 (wrap64 (t220)), .int .i64 x216002_3, .string ⟨#[]⟩, .string ⟨#[]⟩, .string ⟨#[]⟩, .string ⟨#[]⟩, .string ⟨#[]⟩, .string ⟨#[]⟩, .slice none 0 0, .int .i64 0, .int .i64 0, .int .i64 0, .slice none 0 0]) ?_ 3 _ rfl; (with_reducible repeat (first | refine zag ?_ _ | refine zai ?_ | refine zaf ?_ _)); refine zbd (cs := #[.int .i64 (wrap64 (t216)), .int .i64 (wrap64 (t220)), .int .i64 0, .string ⟨#[]⟩, .string ⟨#[]⟩, .string ⟨#[]⟩, .string ⟨#[]⟩, .string ⟨#[]⟩, .string ⟨#[]⟩, .slice none 0 0, .int .i64 0, .int .i64 0, .int .i64 0, .slice none 0 0]) ?_ 2 _ rfl; (with_reducible repeat (first | refine zag ?_ _ | refine zai ?_ | refine zaf ?_ _)); refine zbd (cs := #[.int .i64 (wrap64 (t216)), .int .i64 0, .int .i64 0, .string ⟨#[]⟩, .string ⟨#[]⟩, .string ⟨#[]⟩, .string ⟨#[]⟩, .string ⟨#[]⟩, .string ⟨#[]⟩, .slice none 0 0, .int .i64 0, .int .i64 0, .int .i64 0, .slice none 0 0]) ?_ 1 _ rfl; (with_reducible repeat (first | refine zag ?_ _ | refine zai ?_ | refine zaf ?_ _)); refine zbd (cs := #[.int .i64 0, .int .i64 0, .int .i64 0, .string ⟨#[]⟩, .string ⟨#[]⟩, .string ⟨#[]⟩, .string ⟨#[]⟩, .string ⟨#[]⟩, .string ⟨#[]⟩, .slice none 0 0, .int .i64 0, .int .i64 0, .int .i64 0, .slice none 0 0]) ?_ 0 _ rfl; (with_reducible repeat (first | refine zag ?_ _ | refine zai ?_ | refine zaf ?_ _)); exact BK214.out) Try.underlying38 rfl (by kernel_rfl)) rfl ?_
       exact ⟨_, _, by first | rfl | (simp [zay, zax] <;> rfl) | (simp [*, zay, zax] <;> rfl), by (with_reducible repeat (first | apply Kd.zbb | apply Kd.zba | apply Kd.zbf)); exact Kd.zbh (Kd.zbk (p := ⟨gb214, 13, none⟩) (Kd.zbk (p := ⟨gb214, 12, none⟩) (Kd.zbk (p := ⟨gb214, 11, none⟩) (Kd.zbk (p := ⟨gb214, 10, none⟩) (Kd.zbk (p := ⟨gb214, 9, none⟩) (Kd.zbk (p := ⟨gb214, 8, none⟩) (Kd.zbk (p := ⟨gb214, 7, none⟩) (Kd.zbk (p := ⟨gb214, 6, none⟩) (Kd.zbk (p := ⟨gb214, 5, none⟩) (Kd.zbk (p := ⟨gb214, 4, none⟩) (Kd.zbk (p := ⟨gb214, 3, none⟩) (Kd.zbk (p := ⟨gb214, 2, none⟩) (Kd.zbk (p := ⟨gb214, 1, none⟩) (Kd.zbk (p := ⟨gb214, 0, none⟩) (Kd.zco HO_216009.out BK214.out (by decide)) (fun _ hk => hk.2) (.int .i64 (wrap64 (t216)))) (fun _ hk => hk.2) (.int .i64 (wrap64 (t220)))) (fun _ hk => hk.2) (.int .i64 x216002_3)) (fun _ hk => hk.2) (.string x216003_3)) (fun _ hk => hk.2) (.string x216004_3)) (fun _ hk => hk.2) (.string x216005_3)) (fun _ hk => hk.2) (.string x216006_3)) (fun _ hk => hk.2) (.string x216007_3)) (fun _ hk => hk.2) (.string x216008_3)) (fun _ hk => hk.2) (.slice Ao48 x216009_3.length co48)) (fun _ hk => hk.2) (.int .i64 x216010_3)) (fun _ hk => hk.2) (.int .i64 x216011_3)) (fun _ hk => hk.2) (.int .i64 x216012_3)) (fun _ hk => hk.2) (.slice Ao49 x216013_2.length co49)) (fun _ hk => trivial), by (with_reducible repeat (first | apply Kd.zbb | apply Kd.zba | apply Kd.zbf)); exact Kd.zbh (Kd.zbk (p := ⟨gb214, 13, none⟩) (Kd.zbk (p := ⟨gb214, 12, none⟩) (Kd.zbk (p := ⟨gb214, 11, none⟩) (Kd.zbk (p := ⟨gb214, 10, none⟩) (Kd.zbk (p := ⟨gb214, 9, none⟩) (Kd.zbk (p := ⟨gb214, 8, none⟩) (Kd.zbk (p := ⟨gb214, 7, none⟩) (Kd.zbk (p := ⟨gb214, 6, none⟩) (Kd.zbk (p := ⟨gb214, 5, none⟩) (Kd.zbk (p := ⟨gb214, 4, none⟩) (Kd.zbk (p := ⟨gb214, 3, none⟩) (Kd.zbk (p := ⟨gb214, 2, none⟩) (Kd.zbk (p := ⟨gb214, 1, none⟩) (Kd.zbk (p := ⟨gb214, 0, none⟩) (Kd.zco HO_216013.out BK214.out (by decide)) (fun _ hk => hk.2) (.int .i64 (wrap64 (t216)))) (fun _ hk => hk.2) (.int .i64 (wrap64 (t220)))) (fun _ hk => hk.2) (.int .i64 x216002_3)) (fun _ hk => hk.2) (.string x216003_3)) (fun _ hk => hk.2) (.string x216004_3)) (fun _ hk => hk.2) (.string x216005_3)) (fun _ hk => hk.2) (.string x216006_3)) (fun _ hk => hk.2) (.string x216007_3)) (fun _ hk => hk.2) (.string x216008_3)) (fun _ hk => hk.2) (.slice Ao48 x216009_3.length co48)) (fun _ hk => hk.2) (.int .i64 x216010_3)) (fun _ hk => hk.2) (.int .i64 x216011_3)) (fun _ hk => hk.2) (.int .i64 x216012_3)) (fun _ hk => hk.2) (.slice Ao49 x216013_2.length co49)) (fun _ hk => trivial), by repeat (first | (with_reducible first | exact HI0.out | apply IsS50.alloc | apply IsS50.drewN | apply IsS50.drew | apply IsS50.zbx | apply IsS50.zbv | apply IsS50.zch | refine IsS50.far ?_ NB0_214.out _ | refine IsS50.far ?_ NB0_215.out _) | exact HI0.out), by repeat (first | (with_reducible first | exact HB.out | apply zad | apply zac | apply zae | refine zah ?_ (IsS50.ge HI0.out) | refine zah ?_ GE214.out | refine zah ?_ GE215.out) | exact HB.out), by repeat (first | (with_reducible first | exact HK.out | apply KeepBut.set_ | apply zas | apply zav | apply zar | refine zbg ?_ GW214.out _ | refine zbg ?_ GW215.out _) | exact HK.out)⟩
   ·rw [if_neg c20] at H
    have c20b0 : (t220 == 2) = false := beq_eq_false_iff_ne.mpr c20
    have c20b1 : (t220 != 2) = true := bne_iff_ne.mpr c20
    simp only [Option.some.injEq, Prod.mk.injEq] at H
    obtain ⟨rfl, rfl, rfl, rfl, rfl, rfl, rfl, rfl, rfl, rfl, rfl, rfl, rfl, rfl, rfl, rfl, rfl⟩ := H
    have hnb50 := NB215_214.out
    have hnc50 := NB214_215.out
    have hnb51 := NB215_0.out
    have hnc51 := NB0_215.out
    have hcz52_0 : wc.cell? ⟨gb215, 0, none⟩ = some (.int .i64 (wrap64 (t216))) := (zaa BK215.out 0).trans rfl
    have hcz52_1 : wc.cell? ⟨gb215, 1, none⟩ = some (.int .i64 (wrap64 (t220))) := (zaa BK215.out 1).trans rfl
    have hcz52_2 : wc.cell? ⟨gb215, 2, none⟩ = some (.int .i64 x216002_3) := (zaa BK215.out 2).trans rfl
    have hcz52_3 : wc.cell? ⟨gb215, 3, none⟩ = some (.string x216003_3) := (zaa BK215.out 3).trans rfl
    have hcz52_4 : wc.cell? ⟨gb215, 4, none⟩ = some (.string x216004_3) := (zaa BK215.out 4).trans rfl
    have hcz52_5 : wc.cell? ⟨gb215, 5, none⟩ = some (.string x216005_3) := (zaa BK215.out 5).trans rfl
    have hcz52_6 : wc.cell? ⟨gb215, 6, none⟩ = some (.string x216006_3) := (zaa BK215.out 6).trans rfl
    have hcz52_7 : wc.cell? ⟨gb215, 7, none⟩ = some (.string x216007_3) := (zaa BK215.out 7).trans rfl
    have hcz52_8 : wc.cell? ⟨gb215, 8, none⟩ = some (.string x216008_3) := (zaa BK215.out 8).trans rfl
    have hcz52_9 : wc.cell? ⟨gb215, 9, none⟩ = some (u216009) := (zaa BK215.out 9).trans rfl
    have hcz52_10 : wc.cell? ⟨gb215, 10, none⟩ = some (.int .i64 x216010_3) := (zaa BK215.out 10).trans rfl
    have hcz52_11 : wc.cell? ⟨gb215, 11, none⟩ = some (.int .i64 x216011_3) := (zaa BK215.out 11).trans rfl
    have hcz52_12 : wc.cell? ⟨gb215, 12, none⟩ = some (.int .i64 x216012_3) := (zaa BK215.out 12).trans rfl
    have hcz52_13 : wc.cell? ⟨gb215, 13, none⟩ = some (.slice none 0 0) := (zaa BK215.out 13).trans rfl
    have hfz52_0 := zab BK215.out 0
    have hfz52_1 := zab BK215.out 1
    have hfz52_2 := zab BK215.out 2
    have hfz52_3 := zab BK215.out 3
    have hfz52_4 := zab BK215.out 4
    have hfz52_5 := zab BK215.out 5
    have hfz52_6 := zab BK215.out 6
    have hfz52_7 := zab BK215.out 7
    have hfz52_8 := zab BK215.out 8
    have hfz52_9 := zab BK215.out 9
    have hfz52_10 := zab BK215.out 10
    have hfz52_11 := zab BK215.out 11
    have hfz52_12 := zab BK215.out 12
    have hfz52_13 := zab BK215.out 13
    have hnb53 := NB214_0.out
    have hnc53 := NB0_214.out
    have hcz54_0 : wc.cell? ⟨gb214, 0, none⟩ = some (.int .i64 0) := (zaa BK214.out 0).trans rfl
    have hcz54_1 : wc.cell? ⟨gb214, 1, none⟩ = some (.int .i64 0) := (zaa BK214.out 1).trans rfl
    have hcz54_2 : wc.cell? ⟨gb214, 2, none⟩ = some (.int .i64 0) := (zaa BK214.out 2).trans rfl
    have hcz54_3 : wc.cell? ⟨gb214, 3, none⟩ = some (.string ⟨#[]⟩) := (zaa BK214.out 3).trans rfl
    have hcz54_4 : wc.cell? ⟨gb214, 4, none⟩ = some (.string ⟨#[]⟩) := (zaa BK214.out 4).trans rfl
    have hcz54_5 : wc.cell? ⟨gb214, 5, none⟩ = some (.string ⟨#[]⟩) := (zaa BK214.out 5).trans rfl
    have hcz54_6 : wc.cell? ⟨gb214, 6, none⟩ = some (.string ⟨#[]⟩) := (zaa BK214.out 6).trans rfl
    have hcz54_7 : wc.cell? ⟨gb214, 7, none⟩ = some (.string ⟨#[]⟩) := (zaa BK214.out 7).trans rfl
    have hcz54_8 : wc.cell? ⟨gb214, 8, none⟩ = some (.string ⟨#[]⟩) := (zaa BK214.out 8).trans rfl
    have hcz54_9 : wc.cell? ⟨gb214, 9, none⟩ = some (.slice none 0 0) := (zaa BK214.out 9).trans rfl
    have hcz54_10 : wc.cell? ⟨gb214, 10, none⟩ = some (.int .i64 0) := (zaa BK214.out 10).trans rfl
    have hcz54_11 : wc.cell? ⟨gb214, 11, none⟩ = some (.int .i64 0) := (zaa BK214.out 11).trans rfl
    have hcz54_12 : wc.cell? ⟨gb214, 12, none⟩ = some (.int .i64 0) := (zaa BK214.out 12).trans rfl
    have hcz54_13 : wc.cell? ⟨gb214, 13, none⟩ = some (.slice none 0 0) := (zaa BK214.out 13).trans rfl
    have hfz54_0 := zab BK214.out 0
    have hfz54_1 := zab BK214.out 1
    have hfz54_2 := zab BK214.out 2
    have hfz54_3 := zab BK214.out 3
    have hfz54_4 := zab BK214.out 4
    have hfz54_5 := zab BK214.out 5
    have hfz54_6 := zab BK214.out 6
    have hfz54_7 := zab BK214.out 7
    have hfz54_8 := zab BK214.out 8
    have hfz54_9 := zab BK214.out 9
    have hfz54_10 := zab BK214.out 10
    have hfz54_11 := zab BK214.out 11
    have hfz54_12 := zab BK214.out 12
    have hfz54_13 := zab BK214.out 13
    obtain ⟨Ao55, co55, eo55⟩ := Kd.zbu HO_216009.out
    subst eo55
    go_wp2
    refine bodyPost_ret (results_cell_row rfl _ _ gb214 38 #[.int .i64 (wrap64 (t216)), .int .i64 (wrap64 (t220)), .int .i64 x216002_3, .string x216003_3, .string x216004_3, .string x216005_3, .string x216006_3, .string x216007_3, .string x216008_3, .slice Ao55 x216009_3.length co55, .int .i64 x216010_3, .int .i64 x216011_3, .int .i64 x216012_3, .slice none 0 0] (0, 0) _ rfl (by (with_reducible repeat (first | refine zag ?_ _ | refine zai ?_ | refine zaf ?_ _)); refine zbd (cs := #[.int .i64 (wrap64 (t216)), .int .i64 (wrap64 (t220)), .int .i64 x216002_3, .string x216003_3, .string x216004_3, .string x216005_3, .string x216006_3, .string x216007_3, .string x216008_3, .slice Ao55 x216009_3.length co55, .int .i64 x216010_3, .int .i64 x216011_3, .int .i64 x216012_3, .slice none 0 0]) ?_ 13 _ rfl; (with_reducible repeat (first | refine zag ?_ _ | refine zai ?_ | refine zaf ?_ _)); refine zbd (cs := #[.int .i64 (wrap64 (t216)), .int .i64 (wrap64 (t220)), .int .i64 x216002_3, .string x216003_3, .string x216004_3, .string x216005_3, .string x216006_3, .string x216007_3, .string x216008_3, .slice Ao55 x216009_3.length co55, .int .i64 x216010_3, .int .i64 x216011_3, .int .i64 0, .slice none 0 0]) ?_ 12 _ rfl; (with_reducible repeat (first | refine zag ?_ _ | refine zai ?_ | refine zaf ?_ _)); refine zbd (cs := #[.int .i64 (wrap64 (t216)), .int .i64 (wrap64 (t220)), .int .i64 x216002_3, .string x216003_3, .string x216004_3, .string x216005_3, .string x216006_3, .string x216007_3, .string x216008_3, .slice Ao55 x216009_3.length co55, .int .i64 x216010_3, .int .i64 0, .int .i64 0, .slice none 0 0]) ?_ 11 _ rfl; (with_reducible repeat (first | refine zag ?_ _ | refine zai ?_ | refine zaf ?_ _)); refine zbd (cs := #[.int .i64 (wrap64 (t216)), .int .i64 (wrap64 (t220)), .int .i64 x216002_3, .string x216003_3, .string x216004_3, .string x216005_3, .string x216006_3, .string x216007_3, .string x216008_3, .slice Ao55 x216009_3.length co55, .int .i64 0, .int .i64 0, .int .i64 0, .slice none 0 0]) ?_ 10 _ rfl; (with_reducible repeat (first | refine zag ?_ _ | refine zai ?_ | refine zaf ?_ _)); refine zbd (cs := #[.int .i64 (wrap64 (t216)), .int .i64 (wrap64 (t220)), .int .i64 x216002_3, .string x216003_3, .string x216004_3, .string x216005_3, .string x216006_3, .string x216007_3, .string x216008_3, .slice none 0 0, .int .i64 0, .int .i64 0, .int .i64 0, .slice none 0 0]) ?_ 9 _ rfl; (with_reducible repeat (first | refine zag ?_ _ | refine zai ?_ | refine zaf ?_ _)); refine zbd (cs := #[.int .i64 (wrap64 (t216)), .int .i64 (wrap64 (t220)), .int .i64 x216002_3, .string x216003_3, .string x216004_3, .string x216005_3, .string x216006_3, .string x216007_3, .string ⟨#[]⟩, .slice none 0 0, .int .i64 0, .int .i64 0, .int .i64 0, .slice none 0 0]) ?_ 8 _ rfl; (with_reducible repeat (first | refine zag ?_ _ | refine zai ?_ | refine zaf ?_ _)); refine zbd (cs := #[.int .i64 (wrap64 (t216)), .int .i64 (wrap64 (t220)), .int .i64 x216002_3, .string x216003_3, .string x216004_3, .string x216005_3, .string x216006_3, .string ⟨#[]⟩, .string ⟨#[]⟩, .slice none 0 0, .int .i64 0, .int .i64 0, .int .i64 0, .slice none 0 0]) ?_ 7 _ rfl; (with_reducible repeat (first | refine zag ?_ _ | refine zai ?_ | refine zaf ?_ _)); refine zbd (cs := #[.int .i64 (wrap64 (t216)), .int .i64 (wrap64 (t220)), .int .i64 x216002_3, .string x216003_3, .string x216004_3, .string x216005_3, .string ⟨#[]⟩, .string ⟨#[]⟩, .string ⟨#[]⟩, .slice none 0 0, .int .i64 0, .int .i64 0, .int .i64 0, .slice none 0 0]) ?_ 6 _ rfl; (with_reducible repeat (first | refine zag ?_ _ | refine zai ?_ | refine zaf ?_ _)); refine zbd (cs := #[.int .i64 (wrap64 (t216)), .int .i64 (wrap64 (t220)), .int .i64 x216002_3, .string x216003_3, .string x216004_3, .string ⟨#[]⟩, .string ⟨#[]⟩, .string ⟨#[]⟩, .string ⟨#[]⟩, .slice none 0 0, .int .i64 0, .int .i64 0, .int .i64 0, .slice none 0 0]) ?_ 5 _ rfl; (with_reducible repeat (first | refine zag ?_ _ | refine zai ?_ | refine zaf ?_ _)); refine zbd (cs := #[.int .i64 (wrap64 (t216)), .int .i64 (wrap64 (t220)), .int .i64 x216002_3, .string x216003_3, .string ⟨#[]⟩, .string ⟨#[]⟩, .string ⟨#[]⟩, .string ⟨#[]⟩, .string ⟨#[]⟩, .slice none 0 0, .int .i64 0, .int .i64 0, .int .i64 0, .slice none 0 0]) ?_ 4 _ rfl; (with_reducible repeat (first | refine zag ?_ _ | refine zai ?_ | refine zaf ?_ _)); refine zbd (cs := #[.int .i64 (wrap64 (t216)), .int .i64 (wrap64 (t220)), .int .i64 x216002_3, .string ⟨#[]⟩, .string ⟨#[]⟩, .string ⟨#[]⟩, .string ⟨#[]⟩, .string ⟨#[]⟩, .string ⟨#[]⟩, .slice none 0 0, .int .i64 0, .int .i64 0, .int .i64 0, .slice none 0 0]) ?_ 3 _ rfl; (with_reducible repeat (first | refine zag ?_ _ | refine zai ?_ | refine zaf ?_ _)); refine zbd (cs := #[.int .i64 (wrap64 (t216)), .int .i64 (wrap64 (t220)), .int .i64 0, .string ⟨#[]⟩, .string ⟨#[]⟩, .string ⟨#[]⟩, .string ⟨#[]⟩, .string ⟨#[]⟩, .string ⟨#[]⟩, .slice none 0 0, .int .i64 0, .int .i64 0, .int .i64 0, .slice none 0 0]) ?_ 2 _ rfl; (with_reducible repeat (first | refine zag ?_ _ | refine zai ?_ | refine zaf ?_ _)); refine zbd (cs := #[.int .i64 (wrap64 (t216)), .int .i64 0, .int .i64 0, .string ⟨#[]⟩, .string ⟨#[]⟩, .string ⟨#[]⟩, .string ⟨#[]⟩, .string ⟨#[]⟩, .string ⟨#[]⟩, .slice none 0 0, .int .i64 0, .int .i64 0, .int .i64 0, .slice none 0 0]) ?_ 1 _ rfl; (with_reducible repeat (first | refine zag ?_ _ | refine zai ?_ | refine zaf ?_ _)); refine zbd (cs := #[.int .i64 0, .int .i64 0, .int .i64 0, .string ⟨#[]⟩, .string ⟨#[]⟩, .string ⟨#[]⟩, .string ⟨#[]⟩, .string ⟨#[]⟩, .string ⟨#[]⟩, .slice none 0 0, .int .i64 0, .int .i64 0, .int .i64 0, .slice none 0 0]) ?_ 0 _ rfl; (with_reducible repeat (first | refine zag ?_ _ | refine zai ?_ | refine zaf ?_ _)); exact BK214.out) Try.underlying38 rfl (by kernel_rfl)) rfl ?_
    exact ⟨_, _, by first | rfl | (simp [zay, zax] <;> rfl) | (simp [*, zay, zax] <;> rfl), by (with_reducible repeat (first | apply Kd.zbb | apply Kd.zba | apply Kd.zbf)); exact Kd.zbh (Kd.zbk (p := ⟨gb214, 13, none⟩) (Kd.zbk (p := ⟨gb214, 12, none⟩) (Kd.zbk (p := ⟨gb214, 11, none⟩) (Kd.zbk (p := ⟨gb214, 10, none⟩) (Kd.zbk (p := ⟨gb214, 9, none⟩) (Kd.zbk (p := ⟨gb214, 8, none⟩) (Kd.zbk (p := ⟨gb214, 7, none⟩) (Kd.zbk (p := ⟨gb214, 6, none⟩) (Kd.zbk (p := ⟨gb214, 5, none⟩) (Kd.zbk (p := ⟨gb214, 4, none⟩) (Kd.zbk (p := ⟨gb214, 3, none⟩) (Kd.zbk (p := ⟨gb214, 2, none⟩) (Kd.zbk (p := ⟨gb214, 1, none⟩) (Kd.zbk (p := ⟨gb214, 0, none⟩) (Kd.zco HO_216009.out BK214.out (by decide)) (fun _ hk => hk.2) (.int .i64 (wrap64 (t216)))) (fun _ hk => hk.2) (.int .i64 (wrap64 (t220)))) (fun _ hk => hk.2) (.int .i64 x216002_3)) (fun _ hk => hk.2) (.string x216003_3)) (fun _ hk => hk.2) (.string x216004_3)) (fun _ hk => hk.2) (.string x216005_3)) (fun _ hk => hk.2) (.string x216006_3)) (fun _ hk => hk.2) (.string x216007_3)) (fun _ hk => hk.2) (.string x216008_3)) (fun _ hk => hk.2) (.slice Ao55 x216009_3.length co55)) (fun _ hk => hk.2) (.int .i64 x216010_3)) (fun _ hk => hk.2) (.int .i64 x216011_3)) (fun _ hk => hk.2) (.int .i64 x216012_3)) (fun _ hk => hk.2) (.slice none 0 0)) (fun _ hk => trivial), by first | exact Kd.zdf _ _ _ _ _ | exact Kd.zjm _ _ _ _ _ | exact Kd.zji _ _ _ _ _ | exact Kd.zjl _ _ _ _ _ | exact Kd.zjj _ _ _ _ _, by repeat (first | (with_reducible first | exact HI0.out | apply IsS50.alloc | apply IsS50.drewN | apply IsS50.drew | apply IsS50.zbx | apply IsS50.zbv | apply IsS50.zch | refine IsS50.far ?_ NB0_214.out _ | refine IsS50.far ?_ NB0_215.out _) | exact HI0.out), by repeat (first | (with_reducible first | exact HB.out | apply zad | apply zac | apply zae | refine zah ?_ (IsS50.ge HI0.out) | refine zah ?_ GE214.out | refine zah ?_ GE215.out) | exact HB.out), by repeat (first | (with_reducible first | exact HK.out | apply KeepBut.set_ | apply zas | apply zav | apply zar | refine zbg ?_ GW214.out _ | refine zbg ?_ GW215.out _) | exact HK.out)⟩
def zcy.f (s0_0 : List Int) (s0_1 : Int) (s0_2 : Bool) (s0_3 : Bool) : Option (Int × Int × Bool × Bool) := if s0_2 = true then (some (150, s0_1, s0_2, s0_3)) else (if s0_1 < (s0_0.length : Int) then (some (151, s0_1, s0_2, s0_3)) else (if s0_3 = true then (some (31, s0_1, s0_2, s0_3)) else (some (0, s0_1, s0_2, s0_3))))
set_option maxHeartbeats 8000000 in
set_option maxRecDepth 100000 in
theorem zcy.calls {As0 : Option Addr} {cs0 : Nat} (g : Nat) (s0_0 : List Int) (s0_1 : Int) (s0_2 : Bool) (s0_3 : Bool) (r1 : Int) (r2 : Int) (r3 : Bool) (r4 : Bool) (w0 w : World) (hI : IsS50 As0 cs0 w0 w g s0_0 s0_1 s0_2 s0_3) (hB : Below w0.heap.size w0 w) (h : zcy.f s0_0 s0_1 s0_2 s0_3 = some (r1, r2, r3, r4)) :
  Calls Try.prog 20 #[.pointer (some ⟨g, 0, none⟩)] w fun e w' => e = .returned (.int .i64 r1) ∧ IsS50 As0 cs0 w0 w' g s0_0 r2 r3 r4 ∧ Below w0.heap.size w0 w' ∧ KeepBut w w' g none := by
 have HI0 := Aside0.mk hI
 have HK := Aside0.mk (KeepBut.refl w g none)
 have HL := Aside0.mk hB.size
 clear hI
 have HW0 := Aside0.mk hB.size
 have HB := Aside0.mk hB
 clear hB
 have H : (if s0_2 = true then (some (150, s0_1, s0_2, s0_3)) else (if s0_1 < (s0_0.length : Int) then (some (151, s0_1, s0_2, s0_3)) else (if s0_3 = true then (some (31, s0_1, s0_2, s0_3)) else (some (0, s0_1, s0_2, s0_3))))) = some (r1, r2, r3, r4) := h
 clear h
 by_cases c2 : s0_2 = true
 ·subst c2
  have H1 : (some (150, s0_1, true, s0_3)) = some (r1, r2, r3, r4) := by rw [if_pos rfl] at H; exact H
  clear H
  have H := H1
  clear H1
  simp only [Option.some.injEq, Prod.mk.injEq] at H
  obtain ⟨rfl, rfl, rfl, rfl⟩ := H
  obtain ⟨ASz3_0, cSz3_0, HGz3, hgz3, ⟨HSz3_0, -, -, -⟩⟩ := HI0.out
  have hcz3_0 := zcb HGz3
  have hcz3_1 := zca HGz3
  have hcz3_2 := zcf HGz3
  have hcz3_3 := zce HGz3
  have hfz3_1 := zab HGz3 1
  have hfz3_2 := zab HGz3 2
  have hfz3_3 := zab HGz3 3
  clear HGz3 hgz3
  go_enter Try.func20, Try.ntmps20
  go_wp2
  repeat (go_quiet (fail); try go_wp2)
  go_ret
  exact ⟨by first | rfl | (simp [zay, zax] <;> rfl) | (simp [*, zay, zax] <;> rfl), by repeat (first | (with_reducible first | exact HI0.out | apply IsS50.alloc | apply IsS50.drewN | apply IsS50.drew | apply IsS50.zbx | apply IsS50.zbv | apply IsS50.zch) | exact HI0.out), by repeat (first | (with_reducible first | exact HB.out | apply zad | apply zac | apply zae | refine zah ?_ (IsS50.ge HI0.out)) | exact HB.out), by repeat (first | (with_reducible first | exact HK.out | apply KeepBut.set_ | apply zas | apply zav | apply zar) | exact HK.out)⟩
 ·replace c2 := Bool.eq_false_iff.mpr c2
  subst c2
  have H1 : (if s0_1 < (s0_0.length : Int) then (some (151, s0_1, false, s0_3)) else (if s0_3 = true then (some (31, s0_1, false, s0_3)) else (some (0, s0_1, false, s0_3)))) = some (r1, r2, r3, r4) := by rw [if_neg (show ¬ (false = true) by decide)] at H; exact H
  clear H
  have H := H1
  clear H1
  by_cases c4 : s0_1 < (s0_0.length : Int)
  ·rw [if_pos c4] at H
   have c4b0 : decide (s0_1 < (s0_0.length : Int)) = true := decide_eq_true c4
   clear c4
   simp only [Option.some.injEq, Prod.mk.injEq] at H
   obtain ⟨rfl, rfl, rfl, rfl⟩ := H
   obtain ⟨ASz5_0, cSz5_0, HGz5, hgz5, ⟨HSz5_0, -, -, -⟩⟩ := HI0.out
   have hcz5_0 := zcb HGz5
   have hcz5_1 := zca HGz5
   have hcz5_2 := zcf HGz5
   have hcz5_3 := zce HGz5
   have hfz5_1 := zab HGz5 1
   have hfz5_2 := zab HGz5 2
   have hfz5_3 := zab HGz5 3
   clear HGz5 hgz5
   go_enter Try.func20, Try.ntmps20
   go_wp2
   repeat (go_quiet (fail); try go_wp2)
   go_ret
   exact ⟨by first | rfl | (simp [zay, zax] <;> rfl) | (simp [*, zay, zax] <;> rfl), by repeat (first | (with_reducible first | exact HI0.out | apply IsS50.alloc | apply IsS50.drewN | apply IsS50.drew | apply IsS50.zbx | apply IsS50.zbv | apply IsS50.zch) | exact HI0.out), by repeat (first | (with_reducible first | exact HB.out | apply zad | apply zac | apply zae | refine zah ?_ (IsS50.ge HI0.out)) | exact HB.out), by repeat (first | (with_reducible first | exact HK.out | apply KeepBut.set_ | apply zas | apply zav | apply zar) | exact HK.out)⟩
  ·rw [if_neg c4] at H
   have c4b0 : decide (s0_1 < (s0_0.length : Int)) = false := decide_eq_false c4
   clear c4
   by_cases c6 : s0_3 = true
   ·subst c6
    have H1 : (some (31, s0_1, false, true)) = some (r1, r2, r3, r4) := by rw [if_pos rfl] at H; exact H
    clear H
    have H := H1
    clear H1
    simp only [Option.some.injEq, Prod.mk.injEq] at H
    obtain ⟨rfl, rfl, rfl, rfl⟩ := H
    obtain ⟨ASz7_0, cSz7_0, HGz7, hgz7, ⟨HSz7_0, -, -, -⟩⟩ := HI0.out
    have hcz7_0 := zcb HGz7
    have hcz7_1 := zca HGz7
    have hcz7_2 := zcf HGz7
    have hcz7_3 := zce HGz7
    have hfz7_1 := zab HGz7 1
    have hfz7_2 := zab HGz7 2
    have hfz7_3 := zab HGz7 3
    clear HGz7 hgz7
    go_enter Try.func20, Try.ntmps20
    go_wp2
    repeat (go_quiet (fail); try go_wp2)
    go_ret
    exact ⟨by first | rfl | (simp [zay, zax] <;> rfl) | (simp [*, zay, zax] <;> rfl), by repeat (first | (with_reducible first | exact HI0.out | apply IsS50.alloc | apply IsS50.drewN | apply IsS50.drew | apply IsS50.zbx | apply IsS50.zbv | apply IsS50.zch) | exact HI0.out), by repeat (first | (with_reducible first | exact HB.out | apply zad | apply zac | apply zae | refine zah ?_ (IsS50.ge HI0.out)) | exact HB.out), by repeat (first | (with_reducible first | exact HK.out | apply KeepBut.set_ | apply zas | apply zav | apply zar) | exact HK.out)⟩
   ·replace c6 := Bool.eq_false_iff.mpr c6
    subst c6
    have H1 : (some (0, s0_1, false, false)) = some (r1, r2, r3, r4) := by rw [if_neg (show ¬ (false = true) by decide)] at H; exact H
    clear H
    have H := H1
    clear H1
    simp only [Option.some.injEq, Prod.mk.injEq] at H
    obtain ⟨rfl, rfl, rfl, rfl⟩ := H
    obtain ⟨ASz8_0, cSz8_0, HGz8, hgz8, ⟨HSz8_0, -, -, -⟩⟩ := HI0.out
    have hcz8_0 := zcb HGz8
    have hcz8_1 := zca HGz8
    have hcz8_2 := zcf HGz8
    have hcz8_3 := zce HGz8
    have hfz8_1 := zab HGz8 1
    have hfz8_2 := zab HGz8 2
    have hfz8_3 := zab HGz8 3
    clear HGz8 hgz8
    go_enter Try.func20, Try.ntmps20
    go_wp2
    repeat (go_quiet (fail); try go_wp2)
    go_ret
    exact ⟨by first | rfl | (simp [zay, zax] <;> rfl) | (simp [*, zay, zax] <;> rfl), by repeat (first | (with_reducible first | exact HI0.out | apply IsS50.alloc | apply IsS50.drewN | apply IsS50.drew | apply IsS50.zbx | apply IsS50.zbv | apply IsS50.zch) | exact HI0.out), by repeat (first | (with_reducible first | exact HB.out | apply zad | apply zac | apply zae | refine zah ?_ (IsS50.ge HI0.out)) | exact HB.out), by repeat (first | (with_reducible first | exact HK.out | apply KeepBut.set_ | apply zas | apply zav | apply zar) | exact HK.out)⟩
def zbp.f (a0_0 : Int) (a0_1 : ByteArray) (a0_2 : ByteArray) (a0_3 : ByteArray) (a0_4 : ByteArray) (a0_5 : ByteArray) (a0_6 : ByteArray) (l0_7 : List ByteArray) (a0_8 : Int) (a0_9 : Int) (a0_10 : Int) : Option (Bool) := if a0_0 = 0 then (if (wrap64 ((wrap64 ((wrap64 ((wrap64 ((wrap64 ((wrap64 ((a0_1.size : Int) + (a0_2.size : Int))) + (a0_3.size : Int))) + (a0_4.size : Int))) + (a0_5.size : Int))) + (a0_6.size : Int))) + (l0_7.length : Int))) = 0 then (if a0_8 = 0 then (if a0_9 = 0 then (some (a0_10 == 0)) else (some false)) else (some false)) else (some false)) else (some false)
set_option maxHeartbeats 8000000 in
set_option maxRecDepth 100000 in
theorem zbp.calls (a0_0 : Int) (a0_1 : ByteArray) (a0_2 : ByteArray) (a0_3 : ByteArray) (a0_4 : ByteArray) (a0_5 : ByteArray) (a0_6 : ByteArray) (A0_7 : Option Addr) (c0_7 : Nat) (l0_7 : List ByteArray) (a0_8 : Int) (a0_9 : Int) (a0_10 : Int) (r : Bool) (w : World) (hr0_7 : Kd.C Kd.string w A0_7 l0_7.length l0_7) (hc0_7 : l0_7.length ≤ c0_7) (h : zbp.f a0_0 a0_1 a0_2 a0_3 a0_4 a0_5 a0_6 l0_7 a0_8 a0_9 a0_10 = some r) :
  Calls Try.prog 21 #[.agg #[.int .i64 a0_0, .string a0_1, .string a0_2, .string a0_3, .string a0_4, .string a0_5, .string a0_6, .slice A0_7 l0_7.length c0_7, .int .i64 a0_8, .int .i64 a0_9, .int .i64 a0_10]] w fun e w' => e = .returned (.bool r) ∧ Below w.heap.size w w' := by
 have hu25 := Try.underlying25
 have HR0_7 := Aside0.mk hr0_7
 have HC0_7 := Aside0.mk hc0_7
 clear hr0_7 hc0_7
 have HB := Aside0.mk (Below.refl w.heap.size w)
 have H : (if a0_0 = 0 then (if (wrap64 ((wrap64 ((wrap64 ((wrap64 ((wrap64 ((wrap64 ((a0_1.size : Int) + (a0_2.size : Int))) + (a0_3.size : Int))) + (a0_4.size : Int))) + (a0_5.size : Int))) + (a0_6.size : Int))) + (l0_7.length : Int))) = 0 then (if a0_8 = 0 then (if a0_9 = 0 then (some (a0_10 == 0)) else (some false)) else (some false)) else (some false)) else (some false)) = some r := h
 clear h
 by_cases c2 : a0_0 = 0
 ·rw [if_pos c2] at H
  have c2b0 : (a0_0 == 0) = true := beq_iff_eq.mpr c2
  have c2b1 : (a0_0 != 0) = false := bne_eq_false_iff_eq.mpr c2
  clear c2
  by_cases c3 : (wrap64 ((wrap64 ((wrap64 ((wrap64 ((wrap64 ((wrap64 ((a0_1.size : Int) + (a0_2.size : Int))) + (a0_3.size : Int))) + (a0_4.size : Int))) + (a0_5.size : Int))) + (a0_6.size : Int))) + (l0_7.length : Int))) = 0
  ·rw [if_pos c3] at H
   have c3b0 : ((wrap64 ((wrap64 ((wrap64 ((wrap64 ((wrap64 ((wrap64 ((a0_1.size : Int) + (a0_2.size : Int))) + (a0_3.size : Int))) + (a0_4.size : Int))) + (a0_5.size : Int))) + (a0_6.size : Int))) + (l0_7.length : Int))) == 0) = true := beq_iff_eq.mpr c3
   have c3b1 : ((wrap64 ((wrap64 ((wrap64 ((wrap64 ((wrap64 ((wrap64 ((a0_1.size : Int) + (a0_2.size : Int))) + (a0_3.size : Int))) + (a0_4.size : Int))) + (a0_5.size : Int))) + (a0_6.size : Int))) + (l0_7.length : Int))) != 0) = false := bne_eq_false_iff_eq.mpr c3
   clear c3
   by_cases c4 : a0_8 = 0
   ·rw [if_pos c4] at H
    have c4b0 : (a0_8 == 0) = true := beq_iff_eq.mpr c4
    have c4b1 : (a0_8 != 0) = false := bne_eq_false_iff_eq.mpr c4
    clear c4
    by_cases c5 : a0_9 = 0
    ·rw [if_pos c5] at H
     have c5b0 : (a0_9 == 0) = true := beq_iff_eq.mpr c5
     have c5b1 : (a0_9 != 0) = false := bne_eq_false_iff_eq.mpr c5
     clear c5
     obtain rfl := Option.some.inj H
     go_enter Try.func21, Try.ntmps21
     go_wp2_with (first | ((with_reducible refine zcr (N := 1) rfl ?_); (try (refine zcv (by rfl) ?_; dsimp only)); refine zcm ?hg (N := 1) ?hd (cs := #[.int .i64 a0_0, .string a0_1, .string a0_2, .string a0_3, .string a0_4, .string a0_5, .string a0_6, .slice A0_7 l0_7.length c0_7, .int .i64 a0_8, .int .i64 a0_9, .int .i64 a0_10]) (t := 25) ?hr ?_; (case hd => rfl); (case hg => rfl); (case hr => first | (go_simp; done) | (go_simp; rfl)); intro gb251 hg w6 hbox hb; have n0_ := Aside0.mk (zbl (by repeat (first | (with_reducible first | exact HB.out | apply zad | apply zac | apply zae) | exact HB.out)) hb); have n1_ := Aside0.mk (hbox); have n2_ := Aside0.mk ((by rw [hg]; exact (zaz (by repeat (first | (with_reducible first | exact HB.out | apply zad | apply zac | apply zae) | exact HB.out))) : w.heap.size ≤ gb251)); have n3_ := Aside0.mk ((by rw [hg]; exact (zaz (by repeat (first | (with_reducible first | exact HB.out | apply zad | apply zac | apply zae) | exact HB.out))) : w.heap.size ≤ gb251)); clear HB; have HB := n0_; have BK251 := n1_; have GW251 := n2_; have GE251 := n3_; clear n0_ n1_ n2_ n3_; clear hb hbox hg; have hcz7_0 : w6.cell? ⟨gb251, 0, none⟩ = some (.int .i64 a0_0) := (zaa BK251.out 0).trans rfl; have hcz7_1 : w6.cell? ⟨gb251, 1, none⟩ = some (.string a0_1) := (zaa BK251.out 1).trans rfl; have hcz7_2 : w6.cell? ⟨gb251, 2, none⟩ = some (.string a0_2) := (zaa BK251.out 2).trans rfl; have hcz7_3 : w6.cell? ⟨gb251, 3, none⟩ = some (.string a0_3) := (zaa BK251.out 3).trans rfl; have hcz7_4 : w6.cell? ⟨gb251, 4, none⟩ = some (.string a0_4) := (zaa BK251.out 4).trans rfl; have hcz7_5 : w6.cell? ⟨gb251, 5, none⟩ = some (.string a0_5) := (zaa BK251.out 5).trans rfl; have hcz7_6 : w6.cell? ⟨gb251, 6, none⟩ = some (.string a0_6) := (zaa BK251.out 6).trans rfl; have hcz7_7 : w6.cell? ⟨gb251, 7, none⟩ = some (.slice A0_7 l0_7.length c0_7) := (zaa BK251.out 7).trans rfl; have hcz7_8 : w6.cell? ⟨gb251, 8, none⟩ = some (.int .i64 a0_8) := (zaa BK251.out 8).trans rfl; have hcz7_9 : w6.cell? ⟨gb251, 9, none⟩ = some (.int .i64 a0_9) := (zaa BK251.out 9).trans rfl; have hcz7_10 : w6.cell? ⟨gb251, 10, none⟩ = some (.int .i64 a0_10) := (zaa BK251.out 10).trans rfl; have hfz7_0 := zab BK251.out 0; have hfz7_1 := zab BK251.out 1; have hfz7_2 := zab BK251.out 2; have hfz7_3 := zab BK251.out 3; have hfz7_4 := zab BK251.out 4; have hfz7_5 := zab BK251.out 5; have hfz7_6 := zab BK251.out 6; have hfz7_7 := zab BK251.out 7; have hfz7_8 := zab BK251.out 8; have hfz7_9 := zab BK251.out 9; have hfz7_10 := zab BK251.out 10))
     go_ret
     exact ⟨by first | rfl | (simp [zay, zax] <;> rfl) | (simp [*, zay, zax] <;> rfl), by repeat (first | (with_reducible first | exact HB.out | apply zad | apply zac | apply zae | refine zah ?_ GE251.out) | exact HB.out)⟩
    ·rw [if_neg c5] at H
     have c5b0 : (a0_9 == 0) = false := beq_eq_false_iff_ne.mpr c5
     have c5b1 : (a0_9 != 0) = true := bne_iff_ne.mpr c5
     obtain rfl := Option.some.inj H
     go_enter Try.func21, Try.ntmps21
     go_wp2_with (first | ((with_reducible refine zcr (N := 1) rfl ?_); (try (refine zcv (by rfl) ?_; dsimp only)); refine zcm ?hg (N := 1) ?hd (cs := #[.int .i64 a0_0, .string a0_1, .string a0_2, .string a0_3, .string a0_4, .string a0_5, .string a0_6, .slice A0_7 l0_7.length c0_7, .int .i64 a0_8, .int .i64 a0_9, .int .i64 a0_10]) (t := 25) ?hr ?_; (case hd => rfl); (case hg => rfl); (case hr => first | (go_simp; done) | (go_simp; rfl)); intro gb251 hg w8 hbox hb; have n0_ := Aside0.mk (zbl (by repeat (first | (with_reducible first | exact HB.out | apply zad | apply zac | apply zae) | exact HB.out)) hb); have n1_ := Aside0.mk (hbox); have n2_ := Aside0.mk ((by rw [hg]; exact (zaz (by repeat (first | (with_reducible first | exact HB.out | apply zad | apply zac | apply zae) | exact HB.out))) : w.heap.size ≤ gb251)); have n3_ := Aside0.mk ((by rw [hg]; exact (zaz (by repeat (first | (with_reducible first | exact HB.out | apply zad | apply zac | apply zae) | exact HB.out))) : w.heap.size ≤ gb251)); clear HB; have HB := n0_; have BK251 := n1_; have GW251 := n2_; have GE251 := n3_; clear n0_ n1_ n2_ n3_; clear hb hbox hg; have hcz9_0 : w8.cell? ⟨gb251, 0, none⟩ = some (.int .i64 a0_0) := (zaa BK251.out 0).trans rfl; have hcz9_1 : w8.cell? ⟨gb251, 1, none⟩ = some (.string a0_1) := (zaa BK251.out 1).trans rfl; have hcz9_2 : w8.cell? ⟨gb251, 2, none⟩ = some (.string a0_2) := (zaa BK251.out 2).trans rfl; have hcz9_3 : w8.cell? ⟨gb251, 3, none⟩ = some (.string a0_3) := (zaa BK251.out 3).trans rfl; have hcz9_4 : w8.cell? ⟨gb251, 4, none⟩ = some (.string a0_4) := (zaa BK251.out 4).trans rfl; have hcz9_5 : w8.cell? ⟨gb251, 5, none⟩ = some (.string a0_5) := (zaa BK251.out 5).trans rfl; have hcz9_6 : w8.cell? ⟨gb251, 6, none⟩ = some (.string a0_6) := (zaa BK251.out 6).trans rfl; have hcz9_7 : w8.cell? ⟨gb251, 7, none⟩ = some (.slice A0_7 l0_7.length c0_7) := (zaa BK251.out 7).trans rfl; have hcz9_8 : w8.cell? ⟨gb251, 8, none⟩ = some (.int .i64 a0_8) := (zaa BK251.out 8).trans rfl; have hcz9_9 : w8.cell? ⟨gb251, 9, none⟩ = some (.int .i64 a0_9) := (zaa BK251.out 9).trans rfl; have hcz9_10 : w8.cell? ⟨gb251, 10, none⟩ = some (.int .i64 a0_10) := (zaa BK251.out 10).trans rfl; have hfz9_0 := zab BK251.out 0; have hfz9_1 := zab BK251.out 1; have hfz9_2 := zab BK251.out 2; have hfz9_3 := zab BK251.out 3; have hfz9_4 := zab BK251.out 4; have hfz9_5 := zab BK251.out 5; have hfz9_6 := zab BK251.out 6; have hfz9_7 := zab BK251.out 7; have hfz9_8 := zab BK251.out 8; have hfz9_9 := zab BK251.out 9; have hfz9_10 := zab BK251.out 10))
     go_ret
     exact ⟨by first | rfl | (simp [zay, zax] <;> rfl) | (simp [*, zay, zax] <;> rfl), by repeat (first | (with_reducible first | exact HB.out | apply zad | apply zac | apply zae | refine zah ?_ GE251.out) | exact HB.out)⟩
   ·rw [if_neg c4] at H
    have c4b0 : (a0_8 == 0) = false := beq_eq_false_iff_ne.mpr c4
    have c4b1 : (a0_8 != 0) = true := bne_iff_ne.mpr c4
    obtain rfl := Option.some.inj H
    go_enter Try.func21, Try.ntmps21
    go_wp2_with (first | ((with_reducible refine zcr (N := 1) rfl ?_); (try (refine zcv (by rfl) ?_; dsimp only)); refine zcm ?hg (N := 1) ?hd (cs := #[.int .i64 a0_0, .string a0_1, .string a0_2, .string a0_3, .string a0_4, .string a0_5, .string a0_6, .slice A0_7 l0_7.length c0_7, .int .i64 a0_8, .int .i64 a0_9, .int .i64 a0_10]) (t := 25) ?hr ?_; (case hd => rfl); (case hg => rfl); (case hr => first | (go_simp; done) | (go_simp; rfl)); intro gb251 hg w10 hbox hb; have n0_ := Aside0.mk (zbl (by repeat (first | (with_reducible first | exact HB.out | apply zad | apply zac | apply zae) | exact HB.out)) hb); have n1_ := Aside0.mk (hbox); have n2_ := Aside0.mk ((by rw [hg]; exact (zaz (by repeat (first | (with_reducible first | exact HB.out | apply zad | apply zac | apply zae) | exact HB.out))) : w.heap.size ≤ gb251)); have n3_ := Aside0.mk ((by rw [hg]; exact (zaz (by repeat (first | (with_reducible first | exact HB.out | apply zad | apply zac | apply zae) | exact HB.out))) : w.heap.size ≤ gb251)); clear HB; have HB := n0_; have BK251 := n1_; have GW251 := n2_; have GE251 := n3_; clear n0_ n1_ n2_ n3_; clear hb hbox hg; have hcz11_0 : w10.cell? ⟨gb251, 0, none⟩ = some (.int .i64 a0_0) := (zaa BK251.out 0).trans rfl; have hcz11_1 : w10.cell? ⟨gb251, 1, none⟩ = some (.string a0_1) := (zaa BK251.out 1).trans rfl; have hcz11_2 : w10.cell? ⟨gb251, 2, none⟩ = some (.string a0_2) := (zaa BK251.out 2).trans rfl; have hcz11_3 : w10.cell? ⟨gb251, 3, none⟩ = some (.string a0_3) := (zaa BK251.out 3).trans rfl; have hcz11_4 : w10.cell? ⟨gb251, 4, none⟩ = some (.string a0_4) := (zaa BK251.out 4).trans rfl; have hcz11_5 : w10.cell? ⟨gb251, 5, none⟩ = some (.string a0_5) := (zaa BK251.out 5).trans rfl; have hcz11_6 : w10.cell? ⟨gb251, 6, none⟩ = some (.string a0_6) := (zaa BK251.out 6).trans rfl; have hcz11_7 : w10.cell? ⟨gb251, 7, none⟩ = some (.slice A0_7 l0_7.length c0_7) := (zaa BK251.out 7).trans rfl; have hcz11_8 : w10.cell? ⟨gb251, 8, none⟩ = some (.int .i64 a0_8) := (zaa BK251.out 8).trans rfl; have hcz11_9 : w10.cell? ⟨gb251, 9, none⟩ = some (.int .i64 a0_9) := (zaa BK251.out 9).trans rfl; have hcz11_10 : w10.cell? ⟨gb251, 10, none⟩ = some (.int .i64 a0_10) := (zaa BK251.out 10).trans rfl; have hfz11_0 := zab BK251.out 0; have hfz11_1 := zab BK251.out 1; have hfz11_2 := zab BK251.out 2; have hfz11_3 := zab BK251.out 3; have hfz11_4 := zab BK251.out 4; have hfz11_5 := zab BK251.out 5; have hfz11_6 := zab BK251.out 6; have hfz11_7 := zab BK251.out 7; have hfz11_8 := zab BK251.out 8; have hfz11_9 := zab BK251.out 9; have hfz11_10 := zab BK251.out 10))
    go_ret
    exact ⟨by first | rfl | (simp [zay, zax] <;> rfl) | (simp [*, zay, zax] <;> rfl), by repeat (first | (with_reducible first | exact HB.out | apply zad | apply zac | apply zae | refine zah ?_ GE251.out) | exact HB.out)⟩
  ·rw [if_neg c3] at H
   have c3b0 : ((wrap64 ((wrap64 ((wrap64 ((wrap64 ((wrap64 ((wrap64 ((a0_1.size : Int) + (a0_2.size : Int))) + (a0_3.size : Int))) + (a0_4.size : Int))) + (a0_5.size : Int))) + (a0_6.size : Int))) + (l0_7.length : Int))) == 0) = false := beq_eq_false_iff_ne.mpr c3
   have c3b1 : ((wrap64 ((wrap64 ((wrap64 ((wrap64 ((wrap64 ((wrap64 ((a0_1.size : Int) + (a0_2.size : Int))) + (a0_3.size : Int))) + (a0_4.size : Int))) + (a0_5.size : Int))) + (a0_6.size : Int))) + (l0_7.length : Int))) != 0) = true := bne_iff_ne.mpr c3
   obtain rfl := Option.some.inj H
   go_enter Try.func21, Try.ntmps21
   go_wp2_with (first | ((with_reducible refine zcr (N := 1) rfl ?_); (try (refine zcv (by rfl) ?_; dsimp only)); refine zcm ?hg (N := 1) ?hd (cs := #[.int .i64 a0_0, .string a0_1, .string a0_2, .string a0_3, .string a0_4, .string a0_5, .string a0_6, .slice A0_7 l0_7.length c0_7, .int .i64 a0_8, .int .i64 a0_9, .int .i64 a0_10]) (t := 25) ?hr ?_; (case hd => rfl); (case hg => rfl); (case hr => first | (go_simp; done) | (go_simp; rfl)); intro gb251 hg w12 hbox hb; have n0_ := Aside0.mk (zbl (by repeat (first | (with_reducible first | exact HB.out | apply zad | apply zac | apply zae) | exact HB.out)) hb); have n1_ := Aside0.mk (hbox); have n2_ := Aside0.mk ((by rw [hg]; exact (zaz (by repeat (first | (with_reducible first | exact HB.out | apply zad | apply zac | apply zae) | exact HB.out))) : w.heap.size ≤ gb251)); have n3_ := Aside0.mk ((by rw [hg]; exact (zaz (by repeat (first | (with_reducible first | exact HB.out | apply zad | apply zac | apply zae) | exact HB.out))) : w.heap.size ≤ gb251)); clear HB; have HB := n0_; have BK251 := n1_; have GW251 := n2_; have GE251 := n3_; clear n0_ n1_ n2_ n3_; clear hb hbox hg; have hcz13_0 : w12.cell? ⟨gb251, 0, none⟩ = some (.int .i64 a0_0) := (zaa BK251.out 0).trans rfl; have hcz13_1 : w12.cell? ⟨gb251, 1, none⟩ = some (.string a0_1) := (zaa BK251.out 1).trans rfl; have hcz13_2 : w12.cell? ⟨gb251, 2, none⟩ = some (.string a0_2) := (zaa BK251.out 2).trans rfl; have hcz13_3 : w12.cell? ⟨gb251, 3, none⟩ = some (.string a0_3) := (zaa BK251.out 3).trans rfl; have hcz13_4 : w12.cell? ⟨gb251, 4, none⟩ = some (.string a0_4) := (zaa BK251.out 4).trans rfl; have hcz13_5 : w12.cell? ⟨gb251, 5, none⟩ = some (.string a0_5) := (zaa BK251.out 5).trans rfl; have hcz13_6 : w12.cell? ⟨gb251, 6, none⟩ = some (.string a0_6) := (zaa BK251.out 6).trans rfl; have hcz13_7 : w12.cell? ⟨gb251, 7, none⟩ = some (.slice A0_7 l0_7.length c0_7) := (zaa BK251.out 7).trans rfl; have hcz13_8 : w12.cell? ⟨gb251, 8, none⟩ = some (.int .i64 a0_8) := (zaa BK251.out 8).trans rfl; have hcz13_9 : w12.cell? ⟨gb251, 9, none⟩ = some (.int .i64 a0_9) := (zaa BK251.out 9).trans rfl; have hcz13_10 : w12.cell? ⟨gb251, 10, none⟩ = some (.int .i64 a0_10) := (zaa BK251.out 10).trans rfl; have hfz13_0 := zab BK251.out 0; have hfz13_1 := zab BK251.out 1; have hfz13_2 := zab BK251.out 2; have hfz13_3 := zab BK251.out 3; have hfz13_4 := zab BK251.out 4; have hfz13_5 := zab BK251.out 5; have hfz13_6 := zab BK251.out 6; have hfz13_7 := zab BK251.out 7; have hfz13_8 := zab BK251.out 8; have hfz13_9 := zab BK251.out 9; have hfz13_10 := zab BK251.out 10))
   go_ret
   exact ⟨by first | rfl | (simp [zay, zax] <;> rfl) | (simp [*, zay, zax] <;> rfl), by repeat (first | (with_reducible first | exact HB.out | apply zad | apply zac | apply zae | refine zah ?_ GE251.out) | exact HB.out)⟩
 ·rw [if_neg c2] at H
  have c2b0 : (a0_0 == 0) = false := beq_eq_false_iff_ne.mpr c2
  have c2b1 : (a0_0 != 0) = true := bne_iff_ne.mpr c2
  obtain rfl := Option.some.inj H
  go_enter Try.func21, Try.ntmps21
  go_wp2_with (first | ((with_reducible refine zcr (N := 1) rfl ?_); (try (refine zcv (by rfl) ?_; dsimp only)); refine zcm ?hg (N := 1) ?hd (cs := #[.int .i64 a0_0, .string a0_1, .string a0_2, .string a0_3, .string a0_4, .string a0_5, .string a0_6, .slice A0_7 l0_7.length c0_7, .int .i64 a0_8, .int .i64 a0_9, .int .i64 a0_10]) (t := 25) ?hr ?_; (case hd => rfl); (case hg => rfl); (case hr => first | (go_simp; done) | (go_simp; rfl)); intro gb251 hg w14 hbox hb; have n0_ := Aside0.mk (zbl (by repeat (first | (with_reducible first | exact HB.out | apply zad | apply zac | apply zae) | exact HB.out)) hb); have n1_ := Aside0.mk (hbox); have n2_ := Aside0.mk ((by rw [hg]; exact (zaz (by repeat (first | (with_reducible first | exact HB.out | apply zad | apply zac | apply zae) | exact HB.out))) : w.heap.size ≤ gb251)); have n3_ := Aside0.mk ((by rw [hg]; exact (zaz (by repeat (first | (with_reducible first | exact HB.out | apply zad | apply zac | apply zae) | exact HB.out))) : w.heap.size ≤ gb251)); clear HB; have HB := n0_; have BK251 := n1_; have GW251 := n2_; have GE251 := n3_; clear n0_ n1_ n2_ n3_; clear hb hbox hg; have hcz15_0 : w14.cell? ⟨gb251, 0, none⟩ = some (.int .i64 a0_0) := (zaa BK251.out 0).trans rfl; have hcz15_1 : w14.cell? ⟨gb251, 1, none⟩ = some (.string a0_1) := (zaa BK251.out 1).trans rfl; have hcz15_2 : w14.cell? ⟨gb251, 2, none⟩ = some (.string a0_2) := (zaa BK251.out 2).trans rfl; have hcz15_3 : w14.cell? ⟨gb251, 3, none⟩ = some (.string a0_3) := (zaa BK251.out 3).trans rfl; have hcz15_4 : w14.cell? ⟨gb251, 4, none⟩ = some (.string a0_4) := (zaa BK251.out 4).trans rfl; have hcz15_5 : w14.cell? ⟨gb251, 5, none⟩ = some (.string a0_5) := (zaa BK251.out 5).trans rfl; have hcz15_6 : w14.cell? ⟨gb251, 6, none⟩ = some (.string a0_6) := (zaa BK251.out 6).trans rfl; have hcz15_7 : w14.cell? ⟨gb251, 7, none⟩ = some (.slice A0_7 l0_7.length c0_7) := (zaa BK251.out 7).trans rfl; have hcz15_8 : w14.cell? ⟨gb251, 8, none⟩ = some (.int .i64 a0_8) := (zaa BK251.out 8).trans rfl; have hcz15_9 : w14.cell? ⟨gb251, 9, none⟩ = some (.int .i64 a0_9) := (zaa BK251.out 9).trans rfl; have hcz15_10 : w14.cell? ⟨gb251, 10, none⟩ = some (.int .i64 a0_10) := (zaa BK251.out 10).trans rfl; have hfz15_0 := zab BK251.out 0; have hfz15_1 := zab BK251.out 1; have hfz15_2 := zab BK251.out 2; have hfz15_3 := zab BK251.out 3; have hfz15_4 := zab BK251.out 4; have hfz15_5 := zab BK251.out 5; have hfz15_6 := zab BK251.out 6; have hfz15_7 := zab BK251.out 7; have hfz15_8 := zab BK251.out 8; have hfz15_9 := zab BK251.out 9; have hfz15_10 := zab BK251.out 10))
  go_ret
  exact ⟨by first | rfl | (simp [zay, zax] <;> rfl) | (simp [*, zay, zax] <;> rfl), by repeat (first | (with_reducible first | exact HB.out | apply zad | apply zac | apply zae | refine zah ?_ GE251.out) | exact HB.out)⟩
end Go.Proofs.Ytjhcbggpbfejgaa.XCodecGets
