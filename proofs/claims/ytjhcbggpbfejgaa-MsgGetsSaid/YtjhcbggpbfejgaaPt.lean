import Derived.Test.YtjhcbggpbfejgaaPb
namespace Go.Proofs.Ytjhcbggpbfejgaa.Pt
open Go.RowKit Go.Proofs.zjt.zjq Go.Proofs.zjt.zjr Go.Proofs.zjt.zjs
open Go.Proofs.Ytjhcbggpbfejgaa.Cp Go.Proofs.Ytjhcbggpbfejgaa.Pa Go.Proofs.Ytjhcbggpbfejgaa.Pb
open Go.Proofs.Ytjhcbggpbfejgaa.Cw (info5)
open Go.Proofs.Ytjhcbggpbfejgaa.XCodecGets (st zfz zfo w64s u64s ziw)
open Go.Proofs.Ytjhcbggpbfejgaa.Ms (textR)
set_option linter.unusedVariables false
set_option linter.unusedSimpArgs false
set_option maxHeartbeats 800000 in
set_option maxRecDepth 100000 in
theorem text_calls {As0 : Option Addr} {cs0 : Nat} (k g : Nat) (s0_0 : List Int) (s0_1 : Int) (s0_2 : Bool) (n at' : Int) (sh' : Bool) (w0 w : World) (hI : IsS113 As0 cs0 w0 w g s0_0 s0_1 s0_2) (hB : Below w0.heap.size w0 w) (hn : zan.f k s0_0 s0_1 s0_2 = some (n, at', sh'))
    (a0 : 0 ≤ at') (a1 : at' ≤ s0_0.length) (a2 : 0 ≤ n) (a3 : n < 18446744073709551616) (a4 : s0_0.length ≤ 1099511627776) :
    Calls Try.prog 63 #[.pointer (some ⟨g, 0, none⟩)] w fun e w' => (∃ A2 c2, e = .returned (.slice A2 (if sh' = true ∨ (s0_0.length : Int) - at' < n then ([] : List Int) else (s0_0.drop at'.toNat).take n.toNat).length c2) ∧ Kd.C (Kd.int .u8) w0 A2 (if sh' = true ∨ (s0_0.length : Int) - at' < n then ([] : List Int) else (s0_0.drop at'.toNat).take n.toNat).length (if sh' = true ∨ (s0_0.length : Int) - at' < n then ([] : List Int) else (s0_0.drop at'.toNat).take n.toNat) ∧ (if sh' = true ∨ (s0_0.length : Int) - at' < n then ([] : List Int) else (s0_0.drop at'.toNat).take n.toNat).length ≤ c2) ∧
      IsS113 As0 cs0 w0 w' g s0_0 (if sh' = true ∨ (s0_0.length : Int) - at' < n then at' else at' + n) (if sh' = true ∨ (s0_0.length : Int) - at' < n then true else false) ∧ Below w0.heap.size w0 w' ∧ KeepBut w w' g none := by
  have HN := Aside0.mk hn
  have HI := Aside0.mk hI
  have HB := Aside0.mk hB
  clear hn hI hB
  by_cases c : sh' = true
  · subst c
    simp only [true_or, if_true]
    go_enter Try.func63, Try.ntmps63
    go_wp2_with (go_at_call 69; (with_reducible refine (zan.calls (As0 := As0) (cs0 := cs0) k g s0_0 s0_1 s0_2 n at' true w0 _ ?s1 ?s2 HN.out).mono ?_); (case s1 => exact HI.out); (case s2 => exact HB.out); rintro e w1 ⟨rfl, h1, hb1, hk1⟩; have H1 := Aside0.mk h1; have HB1 := Aside0.mk hb1; have HK1 := Aside0.mk hk1; obtain ⟨A, c, HG, hg, ⟨hc, -, -, hl⟩⟩ := h1; have c0 := zck HG; have c1 := zcj HG; have c2 := zcl HG; have f1 := zab HG 1; have f2 := zab HG 2; clear HG hg hc hl hb1 hk1)
    repeat (go_quiet (fail); try go_wp2)
    go_ret
    exact ⟨⟨none, 0, rfl, Kd.zig _ _, Nat.le_refl _⟩, by repeat (first | exact H1.out | apply IsS113.drewN | apply IsS113.drew | apply IsS113.zbv), by repeat (first | exact HB1.out | apply zac | apply zae | refine zah ?_ (IsS113.ge H1.out)), by repeat (first | exact HK1.out | apply KeepBut.set_ | apply zas | apply zav)⟩
  · replace c := Bool.eq_false_iff.mpr c
    subst c
    by_cases b2 : (s0_0.length : Int) - at' < n
    · simp only [b2, or_true, if_true]
      go_enter Try.func63, Try.ntmps63
      go_wp2_with (go_at_call 69; (with_reducible refine (zan.calls (As0 := As0) (cs0 := cs0) k g s0_0 s0_1 s0_2 n at' false w0 _ ?s1 ?s2 HN.out).mono ?_); (case s1 => exact HI.out); (case s2 => exact HB.out); rintro e w1 ⟨rfl, h1, hb1, hk1⟩; have H1 := Aside0.mk h1; have HB1 := Aside0.mk hb1; have HK1 := Aside0.mk hk1; obtain ⟨A, c, HG, hg, ⟨hc, -, -, hl⟩⟩ := h1; have c0 := zck HG; have c1 := zcj HG; have c2 := zcl HG; have f1 := zab HG 1; have f2 := zab HG 2; clear HG hg hc hl hb1 hk1)
      repeat (go_quiet (fail); try go_wp2)
      go_ret
      exact ⟨⟨none, 0, rfl, Kd.zig _ _, Nat.le_refl _⟩, by repeat (first | exact H1.out | apply IsS113.drewN | apply IsS113.drew | apply IsS113.zbv), by repeat (first | exact HB1.out | apply zac | apply zae | refine zah ?_ (IsS113.ge H1.out)), by repeat (first | exact HK1.out | apply KeepBut.set_ | apply zas | apply zav)⟩
    · simp only [b2, Bool.false_eq_true, or_self, if_false]
      go_enter Try.func63, Try.ntmps63
      go_upto_region 5 with (go_at_call 69; (with_reducible refine (zan.calls (As0 := As0) (cs0 := cs0) k g s0_0 s0_1 s0_2 n at' false w0 _ ?s1 ?s2 HN.out).mono ?_); (case s1 => exact HI.out); (case s2 => exact HB.out); rintro e w1 ⟨rfl, h1, hb1, hk1⟩; have H1 := Aside0.mk h1; have HB1 := Aside0.mk hb1; have HK1 := Aside0.mk hk1; obtain ⟨A, c, HG, hg, ⟨hc, -, -, hl⟩⟩ := h1; have c0 := zck HG; have c1 := zcj HG; have c2 := zcl HG; have f1 := zab HG 1; have f2 := zab HG 2; have HC := Aside0.mk hc; have HL := Aside0.mk hl; clear HG hg hc hb1 hk1)
      repeat (go_quiet (fail); go_upto_region 5 with (fail))
      go_cut [3, 34] (fun v3 v34 wc => v3 = .int .u64 n ∧ v34 = .int .i64 (at' + n) ∧ Aside0 (IsS113 As0 cs0 w0 wc g s0_0 (at' + n) false) ∧ Aside0 (Below w0.heap.size w0 wc) ∧ Aside0 (KeepBut w wc g none))
      case first =>
        go_wp2
        go_meet
        case rel => exact ⟨rfl, rfl, ⟨by repeat (first | exact H1.out | apply IsS113.drewN | apply IsS113.drew | apply IsS113.zbx)⟩, ⟨by repeat (first | exact HB1.out | apply zac | apply zae | refine zah ?_ (IsS113.ge H1.out))⟩, ⟨by repeat (first | exact HK1.out | apply KeepBut.set_ | apply zas | apply zav)⟩⟩
      case rest =>
        obtain ⟨rfl, rfl, H2, HB2, HK2⟩ := hcut
        obtain ⟨A, c, HG, hg, ⟨hc, -, -, hl⟩⟩ := H2.out
        have c0 := zck HG
        have c1 := zcj HG
        clear HG hg
        obtain ⟨i5, hi5, _, hsz5, _⟩ := info_parts info5
        have hmid := Kd.C_mid (lo := at'.toNat) (hi := (at' + n).toNat) hc (by omega) (by omega) hl
        have hcut := cut_mid (P := Try.prog) 27 5 .i64 .i64 Try.underlying27 hi5 1 hsz5 A s0_0.length c at' (at' + n) (by omega) (by omega) (by omega) hl
        have hlen : ((s0_0.take (at' + n).toNat).drop at'.toNat).length = (at' + n).toNat - at'.toNat := by rw [List.length_drop, List.length_take]; omega
        have hs : (s0_0.drop at'.toNat).take n.toNat = (s0_0.take (at' + n).toNat).drop at'.toNat := by rw [List.drop_take]; congr 1; omega
        have hl2 : (at' + n).toNat - at'.toNat ≤ c - at'.toNat := by omega
        rw [show (Kd.int IntKind.u8).sz = 1 from rfl] at hmid
        have hmid2 : Kd.C (Kd.int .u8) w0 (if c = at'.toNat then A else A.map (·.add (at'.toNat * 1))) ((s0_0.take (at' + n).toNat).drop at'.toNat).length ((s0_0.take (at' + n).toNat).drop at'.toNat) := hmid
        have HM := Aside0.mk hmid2
        have HS := Aside0.mk hs
        have HL := Aside0.mk hlen
        have HL2 := Aside0.mk hl2
        generalize (if c = at'.toNat then A else A.map (·.add (at'.toNat * 1))) = X at hcut HM
        have hw1 : IntKind.i64.wrap n = n := IntWalk.i64_in _ (by omega)
        have hw2 : IntKind.i64.wrap (at' + n - n) = at' := by rw [show at' + n - n = at' by omega]; exact IntWalk.i64_in _ (by omega)
        have hw3 : IntKind.i64.wrap at' = at' := IntWalk.i64_in _ (by omega)
        clear hi5 hsz5 hlen hmid hmid2 hs hl2 hc
        go_wp2
        go_quiet (fail)
        (try go_wp2)
        go_ret
        rw [HS.out]
        exact ⟨⟨X, c - at'.toNat, by rw [HL.out]; rfl, HM.out, by rw [HL.out]; exact HL2.out⟩, by repeat (first | exact H2.out | apply IsS113.drewN | apply IsS113.drew), by repeat (first | exact HB2.out | apply zac | apply zae), by repeat (first | exact HK2.out | apply zas | apply zav)⟩
theorem zea {A : Option Addr} {c : Nat} {xs : List Int} {w0 W : World} {g : Nat} {s : St} (h : TSt A c xs w0 W g s) (hB : Bs xs) (hl : xs.length ≤ 1099511627776) (hb : Below w0.heap.size w0 W) :
    Calls Try.prog 63 #[.pointer (some ⟨g, 0, none⟩)] W fun e w' => (∃ A2 c2, e = .returned (.slice A2 (textR s).1.length c2) ∧ Kd.C (Kd.int .u8) w0 A2 (textR s).1.length (textR s).1 ∧ (textR s).1.length ≤ c2) ∧ TSt A c xs w0 w' g (textR s).2 ∧ Below w0.heap.size w0 w' ∧ KeepBut W w' g none := by
  obtain ⟨a, sh, hI, h0, h1, rfl⟩ := h
  obtain ⟨a', s', hf, a0, a1, hs⟩ := zdv xs hB hl 0 a sh h0 h1
  have hbd := zfb (st xs a sh false) (hB.drop _)
  have hT := zfz xs a' (raw (st xs a sh false)).1 s' false a0 a1 hbd.1
  rw [hs] at hT
  have e1 : (textR (st xs a sh false)).1 = if s' = true ∨ (xs.length : Int) - a' < (raw (st xs a sh false)).1 then ([] : List Int) else (xs.drop a'.toNat).take (raw (st xs a sh false)).1.toNat := by
    unfold textR
    rw [hT]
    split <;> rfl
  rw [e1]
  refine (text_calls _ g xs a sh _ _ _ w0 W hI hb hf a0 a1 hbd.1 hbd.2 hl).mono fun e w' ⟨p1, p2, p3, p4⟩ => ⟨p1, ⟨_, _, p2, ?_, ?_, ?_⟩, p3, p4⟩
  · split <;> omega
  · split <;> omega
  · unfold textR
    rw [hT]
    split
    · rfl
    · rename_i hc
      have : s' = false := by
        cases s' with
        | true => exact absurd (.inl rfl) hc
        | false => rfl
      subst this
      rfl
end Go.Proofs.Ytjhcbggpbfejgaa.Pt
