/- The walks of codec's none, PutLog, PutReply. -/
import Derived.Test.YtjhcbggpbfejgaaCw
import Derived.Deep.RegionWith
import Derived.Deep.RegionLaw
namespace Go.Proofs.Ytjhcbggpbfejgaa.Cw
open Go.RowKit Go.Proofs.zjt.zjq Go.Proofs.zjt.zjr Go.Proofs.zjt.zjs
open Go.Proofs.Ytjhcbggpbfejgaa.Cp
set_option linter.unusedVariables false
set_option linter.unusedSimpArgs false
theorem WSt.beginAt {w W : World} {g : Nat} (hB : Below w.heap.size w W) (hg : W.heap.size = g) : WSt w (W.alloc (.cells #[.slice none 0 0] 80)) g (fun _ => False) (W.alloc (.cells #[.slice none 0 0] 80)) [] := by
  subst hg
  exact WSt.begin hB
theorem bthen {w W W2 : World} (h : Below w.heap.size w W) (h2 : Below W.heap.size W W2) : Below w.heap.size w W2 := h.trans (h2.mono h.size)
theorem str_beq {a b : List Int} (ha : Bs a) (hb : Bs b) : ((strOfNums a).toList == (strOfNums b).toList) = decide (a = b) := by
  rw [Bool.eq_iff_iff, beq_iff_eq, decide_eq_true_eq]
  refine Iff.trans ?_ (str_inj ha hb)
  constructor
  · intro h
    exact ByteArray.ext (Array.ext' (by rw [← Go.ByteArray.toList_eq, ← Go.ByteArray.toList_eq, h]))
  · intro h
    rw [h]
theorem none_eq (c : Cmd) (h : c.names.length = 0) : ((strOfNums (enc { c with names := [] })).toList == (strOfNums (enc zeroCmd)).toList) = noneB c := by
  rw [str_beq (Bs.enc _) (Bs.enc _)]
  simp [noneB, h]
theorem PutCommand_nil (op : Int) (a b c d e f : ByteArray) (x y z : Int) (w : World) (hl : (enc ⟨op, a, b, c, d, e, f, [], x, y, z⟩).length < 140737488355328) :
    Calls Try.prog 12 #[.agg #[.int .i64 op, .string a, .string b, .string c, .string d, .string e, .string f, .slice none 0 0, .int .i64 x, .int .i64 y, .int .i64 z]] w
      fun e' w' => ∃ (A : Option Addr) (n k : Nat), e' = .returned (.slice A n k) ∧ (∀ W, Below w'.heap.size w' W → (convert 27 9 (.slice A n k)).run Try.prog W = .ok (.string (strOfNums (enc ⟨op, a, b, c, d, e, f, [], x, y, z⟩))) W) ∧ Below w.heap.size w w' :=
  (PutCommand_any ⟨op, a, b, c, d, e, f, [], x, y, z⟩ none 0 w (Kd.zig _ _) hl).mono (by
    rintro e' w' ⟨v, rfl, ho, hb⟩
    obtain ⟨A, n, k, rfl⟩ := zcp ho
    exact ⟨A, n, k, rfl, fun W hW => own_string (e' := 5) Try.underlying27 Try.underlying5 Try.underlying9 (Kd.zeh (Kd.zcq ho hW)), hb⟩)
set_option maxHeartbeats 800000 in
set_option maxRecDepth 100000 in
theorem zht (c : Cmd) (A : Option Addr) (cap : Nat) (w : World) (hl : (enc c).length < 140737488355328) :
    Calls Try.prog 35 #[cmdV c A cap] w fun e w' => e = .returned (.bool (noneB c)) ∧ Below w.heap.size w w' := by
  have HL := Aside0.mk hl
  clear hl
  by_cases c0 : c.names.length = 0
  · have hd : ((c.names.length : Int) == 0) = true := beq_iff_eq.2 (by omega)
    have hd2 : (c.names.length == 0) = true := beq_iff_eq.2 c0
    have HZ := Aside0.mk (show (enc { c with names := [] }).length < 140737488355328 by have := HL.out; rw [zhk] at *; simp only [Cmd.six, txts] at *; simp at *; omega)
    have E0 := Aside0.mk c0
    clear c0
    unfold cmdV
    go_enter Try.func35, Try.ntmps35
    go_wp2_with fail
    go_region_with (first
      | (go_at_call 12; (with_reducible refine (PutCommand_nil c.op c.book c.name c.data c.mat c.non c.token c.at_ c.session c.seq _ ?hl).mono ?_); (case hl => exact HZ.out); rintro e w1 ⟨A1, n1, k1, rfl, hs1, hb1⟩; have s1 := hs1 _ (Below.refl _ _); have HS1 := Aside0.mk hs1; have HB1 := Aside0.mk hb1; clear hs1 hb1)
      | (go_at_call 12; (with_reducible refine (PutCommand_nil 0 ⟨#[]⟩ ⟨#[]⟩ ⟨#[]⟩ ⟨#[]⟩ ⟨#[]⟩ ⟨#[]⟩ 0 0 0 _ (by decide)).mono ?_); rintro e w2 ⟨A2, n2, k2, rfl, hs2, hb2⟩; have s2 := hs2 _ (Below.refl _ _); have s3 := HS1.out _ hb2; clear hs2))
    all_goals go_wp2
    all_goals go_ret
    all_goals (refine ⟨congrArg Ending.returned ?_, ?_⟩)
    all_goals (try (simp [Act.put, hd]))
    all_goals first
      | exact none_eq c E0.out
      | exact bthen (bthen (zae (zad (Below.refl _ _) _)) HB1.out) hb2
  · have hd : ((c.names.length : Int) == 0) = false := beq_eq_false_iff_ne.2 (by omega)
    have hd2 : (c.names.length == 0) = false := beq_eq_false_iff_ne.2 c0
    have e1 : noneB c = false := by simp [noneB, c0]
    have E1 := Aside0.mk e1
    clear e1 c0
    unfold cmdV
    go_enter Try.func35, Try.ntmps35
    go_wp2_with fail
    go_quiet (fail)
    go_wp2
    go_ret
    rw [E1.out]
    exact ⟨rfl, by repeat (first | (with_reducible first | exact Below.refl _ _ | apply zad | apply zac | apply zae | refine zah ?_ (Nat.le_refl _)))⟩
/-- An entry's value. -/
abbrev logV (l : Log) (A : Option Addr) (cap : Nat) (A2 : Option Addr) (cap2 : Nat) : Value := .agg #[.int .i64 l.term, .int .i64 l.kind, .int .i64 l.cmd.op, .string l.cmd.book, .string l.cmd.name, .string l.cmd.data, .string l.cmd.mat, .string l.cmd.non, .string l.cmd.token, .slice A l.cmd.names.length cap, .int .i64 l.cmd.at_, .int .i64 l.cmd.session, .int .i64 l.cmd.seq, .slice A2 l.nodes.length cap2]
/-- What PutLog answers. -/
def LogOut (w : World) (l : Log) (e : Ending) (w' : World) : Prop := ∃ v, e = .returned (.tuple #[v, .int .i64 (if (putLog l).isSome then 0 else 31)]) ∧ Kd.R (Kd.int .u8) 5 w' w.heap.size (fun _ => True) v ((putLog l).getD []) ∧ Below w.heap.size w w'
theorem LogOut.good {w w' : World} {l : Log} {bs : List Int} {v : Value} (h : putLog l = some bs) (ho : Kd.R (Kd.int .u8) 5 w' w.heap.size (fun _ => True) v bs) (hb : Below w.heap.size w w') : LogOut w l (.returned (.tuple #[v, .int .i64 0])) w' :=
  ⟨v, by rw [h]; rfl, by rw [h]; exact ho, hb⟩
theorem LogOut.bad {w w' : World} {l : Log} (h : putLog l = none) (hb : Below w.heap.size w w') : LogOut w l (.returned (.tuple #[.slice none 0 0, .int .i64 31])) w' :=
  ⟨.slice none 0 0, by rw [h]; rfl, by rw [h]; exact Kd.zdf _ _ _ _ _, hb⟩
set_option maxHeartbeats 800000 in
set_option maxRecDepth 100000 in
theorem PutLog_low (l : Log) (A : Option Addr) (cap : Nat) (A2 : Option Addr) (cap2 : Nat) (w : World) (hk : l.kind < 0 ∨ 2 < l.kind) :
    Calls Try.prog 14 #[logV l A cap A2 cap2] w (LogOut w l) := by
  have HP := Aside0.mk (show putLog l = none by unfold putLog; rw [if_neg (by omega), if_neg (by omega), if_neg (by omega)])
  unfold logV
  rcases hk with hk | hk
  all_goals
    go_enter Try.func14, Try.ntmps14
    go_wp2
    go_ret2
    exact LogOut.bad HP.out (by repeat (first | (with_reducible first | exact Below.refl _ _ | apply zad)))
set_option maxHeartbeats 1600000 in
set_option maxRecDepth 100000 in
/-- Kinds 0 and 2, and a command that is not none. -/
theorem zgn (term : Int) (cmd : Cmd) (nodes : List Int) (A : Option Addr) (cap : Nat) (A2 : Option Addr) (cap2 : Nat) (w : World) (k : Int) (hk : k = 0 ∨ k = 2) (hc : noneB cmd = false) (hl : (enc cmd).length < 140737488355328) :
    Calls Try.prog 14 #[logV ⟨term, k, cmd, nodes⟩ A cap A2 cap2] w (LogOut w ⟨term, k, cmd, nodes⟩) := by
  have HL := Aside0.mk hl
  have HP := Aside0.mk (show putLog ⟨term, k, cmd, nodes⟩ = none by unfold putLog; rcases hk with rfl | rfl <;> simp [hc])
  have HC := Aside0.mk hc
  clear hl hc
  unfold logV
  rcases hk with rfl | rfl
  all_goals
    go_enter Try.func14, Try.ntmps14
    go_wp2_with (go_at_call 35; (with_reducible refine (zht cmd A cap _ ?hl).mono ?_); (case hl => exact HL.out); rintro e w1 ⟨rfl, hb1⟩; rw [HC.out]; have HB1 := Aside0.mk hb1; clear hb1)
    go_ret2
    exact LogOut.bad HP.out (bthen (by repeat (first | (with_reducible first | exact Below.refl _ _ | apply zad))) HB1.out)
set_option maxHeartbeats 1600000 in
set_option maxRecDepth 100000 in
/-- Kinds 0 and 1, and nodes. -/
theorem PutLog_nodes (term : Int) (cmd : Cmd) (nodes : List Int) (A : Option Addr) (cap : Nat) (A2 : Option Addr) (cap2 : Nat) (w : World) (k : Int) (hk : k = 0 ∧ noneB cmd = true ∨ k = 1) (hn : 0 < nodes.length) (hl : (enc cmd).length < 140737488355328) :
    Calls Try.prog 14 #[logV ⟨term, k, cmd, nodes⟩ A cap A2 cap2] w (LogOut w ⟨term, k, cmd, nodes⟩) := by
  have HL := Aside0.mk hl
  have HP := Aside0.mk (show putLog ⟨term, k, cmd, nodes⟩ = none by unfold putLog; have hne : nodes ≠ [] := (by intro h; subst h; simp at hn); rcases hk with ⟨rfl, _⟩ | rfl <;> simp [hne])
  have d1 : decide (0 < nodes.length) = true := decide_eq_true hn
  have d2 : decide (0 < (nodes.length : Int)) = true := decide_eq_true (by omega)
  clear hl hn
  unfold logV
  rcases hk with ⟨rfl, hc⟩ | rfl
  · have HC := Aside0.mk hc
    clear hc
    go_enter Try.func14, Try.ntmps14
    go_wp2_with (go_at_call 35; (with_reducible refine (zht cmd A cap _ ?hl).mono ?_); (case hl => exact HL.out); rintro e w1 ⟨rfl, hb1⟩; rw [HC.out]; have hb1' := (zbn (zbt w _) hb1); have c13 := (zaa hb1' 13).trans rfl; have c1 := (zaa hb1' 1).trans rfl; have HB1 := Aside0.mk hb1; clear hb1 hb1')
    go_ret2
    exact LogOut.bad HP.out (bthen (by repeat (first | (with_reducible first | exact Below.refl _ _ | apply zad))) HB1.out)
  · go_enter Try.func14, Try.ntmps14
    go_wp2
    go_ret2
    exact LogOut.bad HP.out (by repeat (first | (with_reducible first | exact Below.refl _ _ | apply zad)))
end Go.Proofs.Ytjhcbggpbfejgaa.Cw
