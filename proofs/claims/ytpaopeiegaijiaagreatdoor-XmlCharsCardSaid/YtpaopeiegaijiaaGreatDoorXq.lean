import Derived.Test.YtpaopeiegaijiaaGreatDoorXw
/- xml.Print, pieces that pass the check. -/
namespace Go.Proofs.YtpaopeiegaijiaaGreatDoor
open Go.RowKit Go.Shelf Go.Lib Go.Joins Go.Proofs.YtpaopeiegaijiaaGreatDoorW.PrintWords
set_option linter.unusedVariables false
set_option linter.unusedSimpArgs false
def zPc : Pc := ⟨0, 0, ⟨#[]⟩, ⟨#[]⟩⟩
def pcAt (ps : List Pc) (k : Nat) : Pc := ps.getD k zPc
def emitA (ps : List Pc) (k : Nat) : List UInt8 :=
  if (pcAt ps k).kind = 3 then escL (bl (pcAt ps k).text) else if (pcAt ps k).kind = 1 then
    60 :: (nmL (pcAt ps k).space (bl (pcAt ps k).name) ++ ((if k = 0 then attrsL else []) ++ ((if (pcAt ps (k + 1)).kind = 2 then [47] else []) ++ [62])))
  else if (pcAt ps (k - 1)).kind ≠ 1 then 60 :: 47 :: (nmL (pcAt ps k).space (bl (pcAt ps k).name) ++ [62]) else []
def goodA (ps : List Pc) (k : Nat) : Bool := decide (0 ≤ (pcAt ps k).space) && decide ((pcAt ps k).space < 3) && (decide ((pcAt ps k).kind ≠ 1) || decide (k + 1 < ps.length)) && (decide ((pcAt ps k).kind = 1) || decide ((pcAt ps k).kind = 3) || decide (0 < k)) &&
  decide ((pcAt ps k).text.size ≤ 17592186044416) && decide ((pcAt ps k).name.size ≤ 17592186044416)
def outL (ps : List Pc) : Nat → List UInt8
  | 0 => []
  | k + 1 => outL ps k ++ emitA ps k
theorem outL_le (ps : List Pc) : ∀ {j k : Nat}, j ≤ k → (outL ps j).length ≤ (outL ps k).length
  | j, 0, h => by obtain rfl : j = 0 := by omega
                  exact Nat.le_refl _
  | j, k + 1, h => by
    by_cases e : j = k + 1
    · subst e; exact Nat.le_refl _
    · have := outL_le ps (j := j) (k := k) (by omega)
      rw [outL, List.length_append]; omega
/-- Pieces in a row of memory. -/
def PRow (A : Addr) (ps : List Pc) (w : World) : Prop := ∀ k, k < ps.length → w.cell? (A.add (k * 4)) = some (.int .i64 (pcAt ps k).kind) ∧ w.cell? ⟨(A.add (k * 4)).block, (A.add (k * 4)).off + 1, none⟩ = some (.int .i64 (pcAt ps k).space) ∧
  w.cell? ⟨(A.add (k * 4)).block, (A.add (k * 4)).off + 2, none⟩ = some (.string (pcAt ps k).name) ∧ w.cell? ⟨(A.add (k * 4)).block, (A.add (k * 4)).off + 3, none⟩ = some (.string (pcAt ps k).text)
theorem PRow.below {A : Addr} {ps : List Pc} {w w' : World} (h : PRow A ps w) (hb : Below w.heap.size w w') : PRow A ps w' := fun k hk => by
  obtain ⟨h0, h1, h2, h3⟩ := h k hk
  exact ⟨(hb.cell (World.block_lt_of_cell? w _ h0)).trans h0, (hb.cell (World.block_lt_of_cell? w _ h1)).trans h1, (hb.cell (World.block_lt_of_cell? w _ h2)).trans h2, (hb.cell (World.block_lt_of_cell? w _ h3)).trans h3⟩
theorem idx_name (W : World) (n : Int) (l : List UInt8) (h : (n = 0 ∧ l = []) ∨ (n = 1 ∧ l = [68, 58]) ∨ (n = 2 ∧ l = [67, 58])) :
    (Instr.index 96 (.agg #[.string ⟨#[]⟩, .string ⟨#[68, 58]⟩, .string ⟨#[67, 58]⟩]) (.int .i64 n)).run Tryz.prog W = .ok (strV l) W := by
  rcases h with ⟨rfl, rfl⟩ | ⟨rfl, rfl⟩ | ⟨rfl, rfl⟩ <;> kernel_rfl
theorem attr_len (k : Nat) : (if k = 0 then attrsL else []).length ≤ 100 := by split <;> decide
theorem en_len (en : Bool) : (if en = true then [47] else ([] : List UInt8)).length ≤ 1 := by cases en <;> decide
def resV (ps : List Pc) : Value := if (outL ps ps.length).length ≤ 65536 then strV (outL ps ps.length) else .string ⟨#[]⟩
def resN (ps : List Pc) : Int := if (outL ps ps.length).length ≤ 65536 then 0 else 11
theorem res_ok {ps : List Pc} (h : (outL ps ps.length).length ≤ 65536) : resV ps = strV (outL ps ps.length) ∧ resN ps = 0 := by unfold resV resN; rw [if_pos h, if_pos h]; exact ⟨rfl, rfl⟩
theorem res_long {ps : List Pc} {k : Nat} (hk : k < ps.length) (h : 65536 < (outL ps (k + 1)).length) : resV ps = .string ⟨#[]⟩ ∧ resN ps = 11 := by
  have := outL_le ps (j := k + 1) (k := ps.length) (by omega)
  unfold resV resN; rw [if_neg (by omega), if_neg (by omega)]; exact ⟨rfl, rfl⟩
set_option maxHeartbeats 8000000 in
set_option maxRecDepth 100000 in
theorem print_ok (Ao : Option Addr) (c0 : Nat) (ps : List Pc) (w : World) (hrow : ∀ A, Ao = some A → PRow A ps w) (hnn : Ao = none → ps = []) (hlen : ps.length ≤ c0) (hgood : ∀ k, k < ps.length → goodA ps k = true)
    (hC : Calls Tryz.prog 20 #[.slice Ao ps.length c0] w fun e w' => e = .returned (.int .i64 0) ∧ Below w.heap.size w w') (hmax : ps.length ≤ 4611686018427387904) :
    Calls Tryz.prog 21 #[.slice Ao ps.length c0] w fun e w' =>
      e = .returned (.tuple #[resV ps, .int .i64 (resN ps)]) ∧ Below w.heap.size w w' := by
  have hHC := Aside0.mk hC
  clear hC
  go_enter Tryz.func21, Tryz.ntmps21
  go_wp2_with (go_at_call 20; refine hHC.out.mono ?_; rintro e w1 ⟨rfl, hb1⟩)
  have hB0 : IsB w.heap.size w1.heap.size [] (w1.alloc (.cells #[.pointer none, .slice none 0 0] 95)) := .inl ⟨hb1.size, _, heap_alloc_new w1 _, ⟨rfl, .inl ⟨rfl, rfl⟩⟩, by simp [Value.ownBlock]⟩
  have hBb : Below w.heap.size w (w1.alloc (.cells #[.pointer none, .slice none 0 0] 95)) := hb1.alloc hb1.size _
  obtain ⟨b, hb⟩ : ∃ b, w1.heap.size = b := ⟨_, rfl⟩
  rw [hb] at hB0
  rw [hb]
  have HB0 := Aside0.mk hB0
  have HBb := Aside0.mk hBb
  clear hB0 hBb
  go_loopg [17] ps.length (fun n v17 wx => ∃ k : Nat, v17 = .int .i64 (k : Int) ∧ Aside0 (k + n = ps.length) ∧ Aside0 (Below w.heap.size w wx) ∧ Aside0 (IsB w.heap.size b (outL ps k) wx) ∧ Aside0 ((outL ps k).length ≤ 65536))
  case atStart => exact ⟨0, rfl, ⟨by omega⟩, HBb, HB0, ⟨by simp [outL]⟩⟩
  case round =>
    obtain ⟨k, rfl, HN, HW, HI, HL⟩ := hrel
    cases gk with
    | zero =>
      have hk : k = ps.length := by have := HN.out; omega
      subst hk
      have z1 : decide ((ps.length : Int) < (ps.length : Int)) = false := by simp
      have hBw : w.heap.size ≤ wr.heap.size := HW.out.size
      have hst := bstring_any hBw HI.out
      go_wp2_with (go_at_call 50; refine hst.mono ?_; rintro e w5 ⟨rfl, hb5⟩)
      go_ret2
      refine ⟨?_, HW.out.trans hb5⟩
      rw [(res_ok HL.out).1, (res_ok HL.out).2]
      rfl
    | succ gk =>
      have hk : k < ps.length := by have := HN.out; omega
      have z1 : decide ((k : Int) < (ps.length : Int)) = true := decide_eq_true (by omega)
      obtain ⟨A, rfl⟩ : ∃ A, Ao = some A := by
        cases Ao with
        | none => rw [hnn rfl] at hk; simp at hk
        | some A => exact ⟨A, rfl⟩
      have hR := (hrow A rfl).below HW.out
      obtain ⟨r0, r1, r2, r3⟩ := hR k hk
      have HR := Aside0.mk hR
      clear hR
      have hgd := hgood k hk
      unfold goodA at hgd
      simp only [Bool.and_eq_true, Bool.or_eq_true, decide_eq_true_eq] at hgd
      obtain ⟨⟨⟨⟨⟨gz0, gz3⟩, gk1⟩, gk2⟩, gt⟩, gn⟩ := hgd
      have hem := Aside0.mk (show emitA ps k = _ from by unfold emitA; rfl)
      generalize hP : pcAt ps k = P at *
      obtain ⟨kd, sp, nm, tx⟩ := P
      simp only at r0 r1 r2 r3 gz0 gz3 gk1 gk2 gt gn hem
      go_upto_region 8 with (fail)
      have hbx := heap_alloc_new wr (.cells #[.int .i64 kd, .int .i64 sp, .string nm, .string tx] 60)
      have hbl := (Below.refl wr.heap.size wr).alloc (Nat.le_refl _) (.cells #[.int .i64 kd, .int .i64 sp, .string nm, .string tx] 60)
      obtain ⟨g, hg⟩ : ∃ g, wr.heap.size = g := ⟨_, rfl⟩
      generalize wr.alloc (.cells #[.int .i64 kd, .int .i64 sp, .string nm, .string tx] 60) = w2 at *
      have hI2 := isb_below HI.out hbl
      have hW2 := HW.out.trans (hbl.mono HW.out.size)
      have hR2 := HR.out.below hbl
      have hgB : w.heap.size ≤ g := by rw [← hg]; exact HW.out.size
      rw [hg] at hbx ⊢
      have HBX := Aside0.mk hbx
      have HI2 := Aside0.mk hI2
      have HW2 := Aside0.mk hW2
      have HR2 := Aside0.mk hR2
      clear hbx hI2 hW2 hR2 HR HW HI hbl r0 r1 r2 r3 hg
      have q0 : w2.cell? ⟨g, 0, none⟩ = some (.int .i64 kd) := by rw [Lib.cell_of_heap HBX.out]; rfl
      have q1 : w2.cell? ⟨g, 1, none⟩ = some (.int .i64 sp) := by rw [Lib.cell_of_heap HBX.out]; rfl
      have q2 : w2.cell? ⟨g, 2, none⟩ = some (.string nm) := by rw [Lib.cell_of_heap HBX.out]; rfl
      have q3 : w2.cell? ⟨g, 3, none⟩ = some (.string tx) := by rw [Lib.cell_of_heap HBX.out]; rfl
      go_cut [8] (fun v8 wc => v8 = strV (nmL sp (bl nm)) ∧ Aside0 (wc.heap = w2.heap ∧ Below w2.heap.size w2 wc))
      case first =>
        obtain ⟨l, hl⟩ : ∃ l : List UInt8, (sp = 0 ∧ l = []) ∨ (sp = 1 ∧ l = [68, 58]) ∨ (sp = 2 ∧ l = [67, 58]) := by
          rcases (show sp = 0 ∨ sp = 1 ∨ sp = 2 by omega) with rfl | rfl | rfl
          · exact ⟨_, .inl ⟨rfl, rfl⟩⟩
          · exact ⟨_, .inr (.inl ⟨rfl, rfl⟩)⟩
          · exact ⟨_, .inr (.inr ⟨rfl, rfl⟩)⟩
        have hix := fun W => idx_name W sp l hl
        have hnl : nmL sp (bl nm) = l ++ bl nm := by
          rcases hl with ⟨rfl, rfl⟩ | ⟨rfl, rfl⟩ | ⟨rfl, rfl⟩ <;> rfl
        have hnl2 : (⟨l.toArray⟩ : ByteArray) ++ nm = ⟨(nmL sp (bl nm)).toArray⟩ := by
          rw [hnl, ← bl_mk (⟨l.toArray⟩ ++ nm)]; simp [bl]
        have hl2 : (⟨l.toArray⟩ : ByteArray).size ≤ 2 := by rcases hl with ⟨rfl, rfl⟩ | ⟨rfl, rfl⟩ | ⟨rfl, rfl⟩ <;> decide
        have hl3 : l.length ≤ 2 := by rcases hl with ⟨rfl, rfl⟩ | ⟨rfl, rfl⟩ | ⟨rfl, rfl⟩ <;> decide
        have hsum : ¬ (9223372036854775807 < l.length + nm.size) := by omega
        have HNL := Aside0.mk hnl2
        clear hnl hnl2 hl
        go_region_with (fail)
        all_goals
          go_wp2
          go_meet
          case rel => exact ⟨by rw [HNL.out], ⟨rfl, (Below.refl _ w2).drew⟩⟩
      case rest =>
        obtain ⟨rfl, HC⟩ := hcut
        obtain ⟨hch, hcb⟩ := HC.out
        have HBX3 := Aside0.mk (show wc.heap[g]? = some (.cells #[.int .i64 kd, .int .i64 sp, .string nm, .string tx] 60 (0, 0)) from (congrArg (·[g]?) hch).trans HBX.out)
        have HI3 := Aside0.mk (isb_below HI2.out hcb)
        have HW3 := Aside0.mk (HW2.out.trans (hcb.mono HW2.out.size))
        have HR3 := Aside0.mk (HR2.out.below hcb)
        clear q0 q1 q2 q3 HBX HI2 HW2 HR2 HC hch hcb
        have q0 : wc.cell? ⟨g, 0, none⟩ = some (.int .i64 kd) := by rw [Lib.cell_of_heap HBX3.out]; rfl
        have q3 : wc.cell? ⟨g, 3, none⟩ = some (.string tx) := by rw [Lib.cell_of_heap HBX3.out]; rfl
        obtain ⟨en, hen⟩ : ∃ en : Bool, (decide (kd = 1) && decide ((pcAt ps (k + 1)).kind = 2)) = en := ⟨_, rfl⟩
        have HEn := Aside0.mk hen
        clear hen
        go_upto_region 9 with (fail)
        go_cut [9] (fun v9 wd => v9 = .bool en ∧ Aside0 (wd = wc))
        case first =>
          by_cases hk1 : kd = 1
          · have hlt : k + 1 < ps.length := by
              rcases gk1 with h | h
              · exact absurd hk1 h
              · exact h
            obtain ⟨n0, _⟩ := HR3.out (k + 1) hlt
            have c1 : ((k : Int) + 1) < (ps.length : Int) := by omega
            go_wp2_with fail
            go_meet
            case rel =>
              refine ⟨?_, ⟨rfl⟩⟩
              have h := HEn.out
              rw [hk1] at h
              rw [← h]
              congr 1
          · go_wp2_with fail
            go_meet
            case rel =>
              refine ⟨?_, ⟨rfl⟩⟩
              have h := HEn.out
              rw [decide_eq_false hk1, Bool.false_and] at h
              rw [← h]
        case rest =>
          obtain ⟨rfl, HD⟩ := hcut
          have hd := HD.out
          subst hd
          obtain ⟨M, hM⟩ : ∃ M, nmL sp (bl nm) = M := ⟨_, rfl⟩
          have hMl : M.length ≤ nm.size + 2 := by
            rw [← hM, show nm.size = (bl nm).length from rfl]; unfold nmL; split
            · simp
            · split <;> simp
          rw [hM]
          have HM := Aside0.mk hM
          clear hM
          go_upto_block 2 with (fail)
          go_cut [] (fun we => Aside0 (IsB w.heap.size b (outL ps (k + 1)) we) ∧ Aside0 (Below w.heap.size w we))
          case first =>
            by_cases hk3 : kd = 3
            · subst hk3
              go_upto_region 11 with (fail)
              have hgl : g < wc.heap.size := lt_heap HBX3.out
              have hfr := fun o => (Below.refl wc.heap.size wc).alloc (Nat.le_refl _) o
              have q3a : ∀ o, (wc.alloc o).drew.cell? ⟨g, 3, none⟩ = some (.string tx) := fun o => by rw [World.cell?_drew, (hfr o).cell hgl]; exact q3
              have hnews : ∀ j v, (strsV escs)[j]? = some v → ((wc.alloc (.cells #[.string ⟨#[38]⟩, .string ⟨#[38, 97, 109, 112, 59]⟩, .string ⟨#[60]⟩, .string ⟨#[38, 108, 116, 59]⟩, .string ⟨#[62]⟩, .string ⟨#[38, 103, 116, 59]⟩, .string ⟨#[13]⟩, .string ⟨#[38, 35, 49, 51, 59]⟩] 9)).drew).cell? ((⟨wc.heap.size, 0, none⟩ : Addr).add j) = some v := by
                intro j v hj
                rw [World.cell?_drew]
                exact World.news_of_block (heap_alloc_new wc _) j v hj
              have hfrz := hfr (.cells #[.string ⟨#[38]⟩, .string ⟨#[38, 97, 109, 112, 59]⟩, .string ⟨#[60]⟩, .string ⟨#[38, 108, 116, 59]⟩, .string ⟨#[62]⟩, .string ⟨#[38, 103, 116, 59]⟩, .string ⟨#[13]⟩, .string ⟨#[38, 35, 49, 51, 59]⟩] 9)
              have hsz1 : wc.heap.size ≤ (wc.alloc (.cells #[.string ⟨#[38]⟩, .string ⟨#[38, 97, 109, 112, 59]⟩, .string ⟨#[60]⟩, .string ⟨#[38, 108, 116, 59]⟩, .string ⟨#[62]⟩, .string ⟨#[38, 103, 116, 59]⟩, .string ⟨#[13]⟩, .string ⟨#[38, 35, 49, 51, 59]⟩] 9)).drew.heap.size := hfrz.size
              have HNews := Aside0.mk hnews
              have HFrz := Aside0.mk hfrz.drew
              clear hnews hfrz hfr
              have hem3 : emitA ps k = escL (bl tx) := by rw [hem.out, if_pos rfl]
              have HE3 := Aside0.mk hem3
              clear hem3
              have htx : tx.size ≤ 35184372088832 := by omega
              have hlx : (outL ps k).length + (⟨(escL tx.data.toList).toArray⟩ : ByteArray).size ≤ 140737488355328 := by
                have h5 := escL_len5 tx.data.toList
                rw [show tx.data.toList.length = tx.size from rfl] at h5
                have h6 : (⟨(escL tx.data.toList).toArray⟩ : ByteArray).size = (escL tx.data.toList).length := by simp [ByteArray.size]
                have h7 := HL.out
                omega
              go_region_with (first
                | (go_at_call 47; refine (newReplacer_any _ 8 escs rfl _ HNews.out).mono ?_; rintro e w5 ⟨q, gg, cap, rfl, h1, h2, hqb, hown, hbl⟩; have hb5 := HFrz.out.trans (hbl.mono hsz1); have q35 : w5.cell? ⟨g, 3, none⟩ = some (.string tx) := (by rw [hb5.cell hgl]; exact q3); have hg5 : ∀ j v, (strsV escs)[j]? = some v → w5.cell? ⟨gg, j, none⟩ = some v := (fun j v hj => by have h := hown.cells (g := gg) rfl j v hj; rw [show (⟨gg, 0, none⟩ : Addr).add j = ⟨gg, j, none⟩ by { simp [Addr.add]; omega }] at h; exact h); have HRp := Aside0.mk (replacer_any wc.heap.size q gg cap tx w5 htx (Nat.le_trans hsz1 h2) hb5.size hqb hg5); have HB5 := Aside0.mk hb5; clear hb5 hg5 hown hqb hbl)
                | (go_at_call 48; refine HRp.out.mono ?_; rintro e w6 ⟨rfl, hb6⟩; have HB6 := Aside0.mk (HB5.out.trans hb6); clear hb6)
                | (go_at_call 46; refine (bwrite_any ⟨(escL tx.data.toList).toArray⟩ (Nat.le_trans HW3.out.size HB6.out.size) hlx (isb_below HI3.out HB6.out)).mono ?_; rintro e w7 ⟨rfl, hI7, hb7⟩; have HI7 := Aside0.mk hI7; have HB7 := Aside0.mk hb7; clear hI7 hb7))
              all_goals
                go_wp2
                go_meet
                case rel =>
                  refine ⟨⟨?_⟩, ⟨(HW3.out.trans (HB6.out.mono HW3.out.size)).trans HB7.out⟩⟩
                  have h := HI7.out
                  rw [outL, HE3.out]
                  exact h
            · by_cases hk1 : kd = 1
              · subst hk1
                have hem1 : emitA ps k = (60 :: M) ++ ((if k = 0 then attrsL else []) ++ ((if en = true then [47] else []) ++ [62])) := by
                  rw [hem.out, if_neg (by decide), if_pos rfl, HM.out]
                  have h := HEn.out
                  rw [decide_eq_true rfl, Bool.true_and] at h
                  rw [← h]
                  simp
                have hl0 := HL.out
                obtain ⟨X, hX⟩ : ∃ X, outL ps k = X := ⟨_, rfl⟩
                rw [hX] at HI3 hl0
                have HX := Aside0.mk hX
                have HE1 := Aside0.mk hem1
                clear hem1 hX
                have hdat : ((⟨#[60]⟩ : ByteArray) ++ ⟨M.toArray⟩).data.toList = 60 :: M := by simp
                have hdsz : ((⟨#[60]⟩ : ByteArray) ++ ⟨M.toArray⟩).size = M.length + 1 := by simp [ByteArray.size]
                go_upto_region 13 with (fail)
                go_wp2_with fail
                (with_reducible refine (bwrite_any _ HW3.out.size ?hsz HI3.out).mono ?_)
                case hsz => rw [hdsz]; omega
                rintro e w5 ⟨rfl, hI5, hb5⟩
                rw [hdat] at hI5
                have HI5 := Aside0.mk hI5
                have HW5 := Aside0.mk (HW3.out.trans hb5)
                clear hI5 hb5
                go_upto_if 59 with (fail)
                go_cut [] (fun wd => Aside0 (IsB w.heap.size b (X ++ 60 :: M ++ (if k = 0 then attrsL else [])) wd) ∧ Aside0 (Below w.heap.size w wd))
                case first =>
                  by_cases hk0 : k = 0
                  · have z6 : ((k : Int) == 0) = true := beq_iff_eq.2 (by omega)
                    have HK0 := Aside0.mk hk0
                    clear hk0
                    go_wp2_with fail
                    (with_reducible refine (bwrite_any _ HW5.out.size ?hsz HI5.out).mono ?_)
                    case hsz => simp [ByteArray.size]; omega
                    rintro e w6 ⟨rfl, hI6, hb6⟩
                    go_wp2
                    go_meet
                    case rel => exact ⟨⟨by rw [if_pos HK0.out]; exact hI6⟩, ⟨HW5.out.trans hb6⟩⟩
                  · have z6 : ((k : Int) == 0) = false := beq_eq_false_iff_ne.2 (by omega)
                    go_wp2_with fail
                    go_meet
                    case rel => exact ⟨⟨by rw [if_neg hk0, List.append_nil]; exact HI5.out⟩, HW5⟩
                case rest =>
                  obtain ⟨HI6, HW6⟩ := hcut
                  go_upto_if 61 with (fail)
                  go_cut [] (fun wd => Aside0 (IsB w.heap.size b (X ++ 60 :: M ++ (if k = 0 then attrsL else []) ++ (if en = true then [47] else [])) wd) ∧ Aside0 (Below w.heap.size w wd))
                  case first =>
                    cases en with
                    | true =>
                      go_wp2_with fail
                      (with_reducible refine (bwrite_any _ HW6.out.size ?hsz HI6.out).mono ?_)
                      case hsz => have := attr_len k; simp [ByteArray.size]; omega
                      rintro e w7 ⟨rfl, hI7, hb7⟩
                      go_wp2
                      go_meet
                      case rel => exact ⟨⟨by rw [if_pos trivial]; exact hI7⟩, ⟨HW6.out.trans hb7⟩⟩
                    | false =>
                      go_wp2_with fail
                      go_meet
                      case rel => exact ⟨⟨by rw [if_neg Bool.false_ne_true, List.append_nil]; exact HI6.out⟩, HW6⟩
                  case rest =>
                    obtain ⟨HI7, HW7⟩ := hcut
                    go_wp2_with fail
                    (with_reducible refine (bwrite_any _ HW7.out.size ?hsz HI7.out).mono ?_)
                    case hsz => have := attr_len k; have := en_len en; simp [ByteArray.size]; omega
                    rintro e w8 ⟨rfl, hI8, hb8⟩
                    go_wp2
                    go_meet
                    case rel =>
                      refine ⟨⟨?_⟩, ⟨HW7.out.trans hb8⟩⟩
                      rw [outL, HX.out, HE1.out]
                      have e : X ++ ((60 :: M) ++ ((if k = 0 then attrsL else []) ++ ((if en = true then [47] else []) ++ [62]))) = X ++ 60 :: M ++ (if k = 0 then attrsL else []) ++ (if en = true then [47] else []) ++ [62] := by simp
                      rw [e]
                      exact hI8
              · have hk00 : 0 < k := by
                  rcases gk2 with (h | h) | h
                  · exact absurd h hk1
                  · exact absurd h hk3
                  · exact h
                obtain ⟨m0, _⟩ := HR3.out (k - 1) (by omega)
                have kk1 : (0 : Int) ≤ (k : Int) - 1 := by omega
                have kk2 : (k : Int) - 1 < (ps.length : Int) := by omega
                have kk3 : ((k : Int) - 1).toNat = k - 1 := by omega
                have hem2 : emitA ps k = if (pcAt ps (k - 1)).kind ≠ 1 then 60 :: 47 :: (nmL sp (bl nm) ++ [62]) else [] := by
                  rw [hem.out, if_neg hk3, if_neg hk1]
                have HE2 := Aside0.mk hem2
                clear hem2
                have hl0 := HL.out
                have hs1 : ¬ (9223372036854775807 < 2 + M.length) := by omega
                have hs2 : ¬ (9223372036854775807 < 2 + M.length + 1) := by omega
                have hdat : ((⟨#[60, 47]⟩ : ByteArray) ++ ⟨M.toArray⟩ ++ ⟨#[62]⟩).data.toList = 60 :: 47 :: (M ++ [62]) := by simp
                have hdsz : ((⟨#[60, 47]⟩ : ByteArray) ++ ⟨M.toArray⟩ ++ ⟨#[62]⟩).size = M.length + 3 := by simp [ByteArray.size, Nat.add_comm]; omega
                by_cases hpk : (pcAt ps (k - 1)).kind = 1
                · go_wp2_with fail
                  go_meet
                  case rel =>
                    refine ⟨⟨?_⟩, HW3⟩
                    rw [outL, HE2.out, if_neg (fun h => h hpk), List.append_nil]
                    exact HI3.out
                · go_wp2_with fail
                  (with_reducible refine (bwrite_any _ HW3.out.size ?hsz HI3.out).mono ?_)
                  case hsz => rw [hdsz]; omega
                  rintro e w5 ⟨rfl, hI5, hb5⟩
                  rw [hdat] at hI5
                  go_wp2
                  go_meet
                  case rel =>
                    refine ⟨⟨?_⟩, ⟨HW3.out.trans hb5⟩⟩
                    rw [outL, HE2.out, if_pos hpk, HM.out]
                    exact hI5
          case rest =>
            obtain ⟨HI5, HW5⟩ := hcut
            have hln := blen_any HI5.out
            by_cases hlong : 65536 < (outL ps (k + 1)).length
            · have z5 : decide ((65536 : Int) < ((outL ps (k + 1)).length : Int)) = true := decide_eq_true (by omega)
              go_wp2_with (go_at_call 49; refine hln.mono ?_; rintro e w7 ⟨rfl, rfl⟩)
              go_ret2
              refine ⟨?_, HW5.out⟩
              rw [(res_long hk hlong).1, (res_long hk hlong).2]
              rfl
            · have z5 : decide ((65536 : Int) < ((outL ps (k + 1)).length : Int)) = false := decide_eq_false (by omega)
              go_wp2_with (go_at_call 49; refine hln.mono ?_; rintro e w7 ⟨rfl, rfl⟩)
              go_roundg gk
              case measure => omega
              case rel => exact ⟨k + 1, by simp, ⟨by have := HN.out; omega⟩, HW5, HI5, ⟨by omega⟩⟩
def resT (ps : List Pc) : ByteArray := if (outL ps ps.length).length ≤ 65536 then ⟨(outL ps ps.length).toArray⟩ else ⟨#[]⟩
theorem resV_T (ps : List Pc) : resV ps = .string (resT ps) := by unfold resV resT; split <;> rfl
set_option maxRecDepth 100000 in
theorem print_bad (Ao : Option Addr) (c0 m : Nat) (n : Int) (w : World) (hn : n ≠ 0)
    (hC : Calls Tryz.prog 20 #[.slice Ao m c0] w fun e w' => e = .returned (.int .i64 n) ∧ Below w.heap.size w w') :
    Calls Tryz.prog 21 #[.slice Ao m c0] w fun e w' => e = .returned (.tuple #[.string ⟨#[]⟩, .int .i64 n]) ∧ Below w.heap.size w w' := by
  have hz : (n != 0) = true := bne_iff_ne.2 hn
  go_enter Tryz.func21, Tryz.ntmps21
  go_wp2_with (go_at_call 20; refine hC.mono ?_; rintro e w1 ⟨rfl, hb1⟩)
  go_ret2
  exact ⟨rfl, hb1⟩
end Go.Proofs.YtpaopeiegaijiaaGreatDoor
