/- The walks of codec's reader: lists and commands. -/
import Derived.Test.YtjhcbggpbfejgaaCk
import Derived.Test.YtjhcbggpbfejgaaCl
import Derived.Deep.QuietTactic
import Derived.Deep.RegionWith
import Derived.Deep.RegionLaw
namespace Go.Proofs.Ytjhcbggpbfejgaa.Cr
open Go.Proofs.Ytjhcbggpbfejgaa.Cw
open Go.RowKit Go.Proofs.zjt.zjq Go.Proofs.zjt.zjr Go.Proofs.zjt.zjs
open Go.Proofs.Ytjhcbggpbfejgaa.Cp
set_option linter.unusedVariables false
set_option linter.unusedSimpArgs false
theorem C_of_ints {w : World} {b t : Nat} {fr : Nat × Nat} (l : List Int) (hb : w.heap[b]? = some (.cells (l.map (Value.int .i64)).toArray t fr)) (hl : l.length ≤ 9223372036854775807) : Kd.C (Kd.int .i64) w (some ⟨b, 0, none⟩) l.length l := by
  refine Kd.zgr (d := 0) ⟨rfl, hl, fun _ => ⟨_, rfl, fun j hj => ?_⟩⟩
  rw [add_plain, cell_of_row w b j _ _ _ hb]
  simp [List.getD_eq_getElem?_getD, hj]
theorem blk_new1 (w : World) (o o' : Obj) : ((w.alloc o).alloc o').heap[w.heap.size + 1]? = some o' := by
  have h := zbt (w.alloc o) o'
  have e : (w.alloc o).heap.size = w.heap.size + 1 := by simp
  rwa [e] at h
/-- An entry's cells. -/
abbrev logC (l : Log) (A : Option Addr) (cap : Nat) (A2 : Option Addr) (cap2 : Nat) : Array Value := #[.int .i64 l.term, .int .i64 l.kind, .int .i64 l.cmd.op, .string l.cmd.book, .string l.cmd.name, .string l.cmd.data, .string l.cmd.mat, .string l.cmd.non, .string l.cmd.token, .slice A l.cmd.names.length cap, .int .i64 l.cmd.at_, .int .i64 l.cmd.session, .int .i64 l.cmd.seq, .slice A2 l.nodes.length cap2]
/-- The first entry and the first command. -/
def L0 : Log := ⟨2, 2, zeroCmd, [1, 3]⟩
def C0 : Cmd := ⟨3, ⟨#[97]⟩, ⟨#[]⟩, ⟨#[]⟩, ⟨#[]⟩, ⟨#[]⟩, ⟨#[]⟩, [⟨#[120]⟩], 0, 0, 0⟩
theorem L0_put : (putLog L0).isSome = true ∧ ((putLog L0).getD []).length = 33 := by decide +kernel
theorem L0_get : (getLog ((putLog L0).getD [])).2 = 0 ∧ (getLog ((putLog L0).getD [])).1.nodes.length = 2 ∧ (getLog ((putLog L0).getD [])).1.term = 2 := by decide +kernel
theorem zjp : (getCommand (enc C0)).2 = 0 ∧ (getCommand (enc C0)).1.names.length = 1 ∧ (getCommand (enc C0)).1.book.data = #[97] := by decide +kernel
theorem Bs.putLog {l : Log} {b : List Int} (h : putLog l = some b) : Bs b := by
  have hk : ∀ k : Int, 0 ≤ k → k < 256 → Bs [k] := fun k h0 h1 x hx => by simp at hx; subst hx; exact ⟨h0, h1⟩
  unfold Cp.putLog at h
  split at h
  · split at h
    · injection h with h; subst h; exact (Bs.be8 _).append (hk 0 (by decide) (by decide))
    · cases h
  · split at h
    · split at h
      · injection h with h; subst h; exact ((Bs.be8 _).append (hk 1 (by decide) (by decide))).append (Bs.enc _)
      · cases h
    · split at h
      · split at h
        · injection h with h; subst h; exact ((Bs.be8 _).append (hk 2 (by decide) (by decide))).append ((Bs.be8 _).append (Bs.nums8 _))
        · cases h
      · cases h
/-- A row of bytes of one's own, as a slice that is read. -/
theorem zit {w : World} {base : Nat} {ok : Nat → Prop} {v : Value} {xs : List Int} (h : Kd.R (Kd.int .u8) 5 w base ok v xs) : ∃ A c, v = .slice A xs.length c ∧ xs.length ≤ c ∧ Kd.C (Kd.int .u8) w A xs.length xs := Kd.zft h
set_option maxHeartbeats 1600000 in
set_option maxRecDepth 100000 in
theorem zie (w : World) : Calls Try.prog 11 #[] w fun e w' => e = .returned (.bool true) ∧ Below w.heap.size w w' := by
  obtain ⟨B0, hB0⟩ : ∃ B0, putLog L0 = some B0 := Option.isSome_iff_exists.1 L0_put.1
  have hbs := Bs.putLog hB0
  have hl := L0_put.2
  have hg := L0_get
  rw [hB0] at hl hg
  simp only [Option.getD_some] at hl hg
  have HB0 := Aside0.mk hB0
  have HBS := Aside0.mk hbs
  have HLEN := Aside0.mk hl
  have g1 : ((getLog B0).2 == 0) = true := beq_iff_eq.2 hg.1
  have g2 : (((getLog B0).1.nodes.length : Int) == 2) = true := beq_iff_eq.2 (by omega)
  have g3 : ((getLog B0).1.term == 2) = true := beq_iff_eq.2 hg.2.2
  have g4 : ((B0.length : Int) == 33) = true := beq_iff_eq.2 (by omega)
  have g5 : ((getCommand (enc C0)).2 == 0) = true := beq_iff_eq.2 zjp.1
  have g6 : (((getCommand (enc C0)).1.names.length : Int) == 1) = true := beq_iff_eq.2 (by have := zjp.2.1; omega)
  have g7 : ((getCommand (enc C0)).1.book.toList == [97]) = true := by
    rw [show (getCommand (enc C0)).1.book = ⟨#[97]⟩ from ByteArray.ext zjp.2.2]
    decide +kernel
  clear hbs hl hg hB0
  go_enter Try.func11, Try.ntmps11
  go_wp2_with (first
    | (go_at_call 14; go_must (refine zdw (args' := #[logV L0 none 0 (some ⟨w.heap.size, 0, none⟩) 2]) rfl ?_); go_must (refine (zgo L0 none 0 (some ⟨w.heap.size, 0, none⟩) 2 _ (Kd.zig _ _) ?hm (by decide +kernel)).mono ?_); (case hm => exact C_of_ints [1, 3] (zbt w _) (by decide)); rintro e w1 ⟨v1, rfl, ho1, hb1⟩; rw [HB0.out] at ho1 ⊢; simp only [Option.getD_some, Option.isSome_some, if_true] at ho1 ⊢; obtain ⟨A1, c1, rfl, hc1, hr1⟩ := zit ho1; have HR1 := Aside0.mk hr1; have HC1 := Aside0.mk hc1; have HB1 := Aside0.mk (bthen (zad (Below.refl _ _) _) hb1); clear ho1 hb1 hr1 hc1)
    | (go_at_call 15; go_must (refine (zgp B0 A1 c1 _ HR1.out HC1.out HBS.out (by have := HLEN.out; omega)).mono ?_); rintro e w2 ⟨A2, c2, A3, c3, rfl, _, _, hb2⟩; have HB2 := Aside0.mk (bthen HB1.out hb2); clear hb2)
    | (go_at_call 12; go_must (refine zdw (args' := #[cmdV C0 (some ⟨w2.heap.size + 1, 0, none⟩) 1]) rfl ?_); go_must (refine (PutCommand_any C0 _ 1 _ ?hn (by decide +kernel)).mono ?_); go_must (case hn => exact C_of_blk C0.names (blk_new1 _ _ _) (by decide)); rintro e w3 ⟨v3, rfl, ho3, hb3⟩; obtain ⟨A4, c4, rfl, hc4, hr4⟩ := zit ho3; have HR4 := Aside0.mk hr4; have HC4 := Aside0.mk hc4; have HB3 := Aside0.mk (bthen (zad (zad HB2.out _) _) hb3); have HL3 := Aside0.mk (zbn (zaf (zbt w2 (.cells (logC (getLog B0).1 A2 c2 A3 c3) 38)) _) hb3); clear ho3 hb3 hr4 hc4)
    | (go_at_call 13; go_must (refine (GetCommand_any (enc C0) A4 c4 _ HR4.out HC4.out (Bs.enc _) (by decide +kernel)).mono ?_); rintro e w4 ⟨A5, c5, rfl, _, hb4⟩; have HB4 := Aside0.mk (bthen HB3.out hb4); have hl4 := fun o => zaf (zbn HL3.out hb4) o; have y0 := fun o => (zaa (hl4 o) 0).trans rfl; have y13 := fun o => (zaa (hl4 o) 13).trans rfl; clear hb4 hl4))
  go_ret
  exact ⟨rfl, zad HB4.out _⟩
end Go.Proofs.Ytjhcbggpbfejgaa.Cr
