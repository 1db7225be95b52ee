/- What the walk of the law CodecGets keeps. -/
import Derived.Test.YtjhcbggpbfejgaaXCodecGetsx5
import Derived.Test.YtjhcbggpbfejgaaGeLy
import Derived.Test.YtjhcbggpbfejgaaL3
namespace Go.Proofs.Ytjhcbggpbfejgaa.Gw
open Go.RowKit Go.Proofs.YtjhcbggpbfejgaaW.PrintWords Go.Proofs.YtjhcbggpbfejgaaW.PrintLast Go.Proofs.YtjhcbggpbfejgaaW.PrintMore
open Go.Proofs.Ytjhcbggpbfejgaa.Cp
open Go.Proofs.Ytjhcbggpbfejgaa.Cw (bthen info5)
open Go.Proofs.Ytjhcbggpbfejgaa.XCodecGets (S93 k93 mk93 IsS50 command_s reply_s log_s end_s st_zero st)
set_option linter.unusedVariables false
set_option linter.unusedSimpArgs false

theorem infoC : (Try.prog.info? 25).map (·.size) = some 11 := by kernel_rfl
theorem infoR : (Try.prog.info? 45).map (·.size) = some 5 := by kernel_rfl
theorem infoL : (Try.prog.info? 38).map (·.size) = some 14 := by kernel_rfl
abbrev zC : Array Value := #[.int .i64 0, .string ⟨#[]⟩, .string ⟨#[]⟩, .string ⟨#[]⟩, .string ⟨#[]⟩, .string ⟨#[]⟩, .string ⟨#[]⟩, .slice none 0 0, .int .i64 0, .int .i64 0, .int .i64 0]
abbrev zR : Array Value := #[.int .i64 0, .int .i64 0, .string ⟨#[]⟩, .slice none 0 0, .string ⟨#[]⟩]
abbrev zL : Array Value := #[.int .i64 0, .int .i64 0, .int .i64 0, .string ⟨#[]⟩, .string ⟨#[]⟩, .string ⟨#[]⟩, .string ⟨#[]⟩, .string ⟨#[]⟩, .string ⟨#[]⟩, .slice none 0 0, .int .i64 0, .int .i64 0, .int .i64 0, .slice none 0 0]
abbrev cmdC (c : Cmd) (A : Option Addr) (cap : Nat) : Array Value := #[.int .i64 c.op, .string c.book, .string c.name, .string c.data, .string c.mat, .string c.non, .string c.token, .slice A c.names.length cap, .int .i64 c.at_, .int .i64 c.session, .int .i64 c.seq]
abbrev repC (r : Cr.Rep S93) (v : Value) : Array Value := #[.int .i64 r.st, .int .i64 r.tag, .string r.data, v, .string r.token]
abbrev logD (l : Log) (A : Option Addr) (cap : Nat) (A2 : Option Addr) (cap2 : Nat) : Array Value := #[.int .i64 l.term, .int .i64 l.kind, .int .i64 l.cmd.op, .string l.cmd.book, .string l.cmd.name, .string l.cmd.data, .string l.cmd.mat, .string l.cmd.non, .string l.cmd.token, .slice A l.cmd.names.length cap, .int .i64 l.cmd.at_, .int .i64 l.cmd.session, .int .i64 l.cmd.seq, .slice A2 l.nodes.length cap2]
theorem below_new' {W W1 : World} {o : Obj} (h : (W.alloc o).grownBy W1 (some W.heap.size)) : Below W.heap.size W W1 :=
  (below_alloc (Below.refl _ _) o).grown h (by simp) (fun k hk => by injection hk with hk; omega)
theorem emptyRow {w : World} {base : Nat} (hs : base ≤ w.heap.size) : Kd.R (Kd.int .u8) 5 (w.alloc (.cells #[] 5)) base (fun _ => True) (.slice (some ⟨w.heap.size, 0, none⟩) 0 0) [] :=
  Kd.R_of_own (h1 := fun _ => rfl) (World.ownsRow_made (base := base) (e := 5) (size := 1) w #[] 0 hs (by simp [maxLen]) rfl) (fun _ _ => trivial)
def RX {α : Type} (d : Kd α) (e : TypeId) (W : World) (v : Value) (l : List α) : Prop := ∃ base, Kd.R d e W base (fun _ => True) v l
theorem RX.below {α : Type} {d : Kd α} {e : TypeId} {W W1 : World} {v : Value} {l : List α} (h : RX d e W v l) (hb : Below W.heap.size W W1) : RX d e W1 v l := h.imp fun _ h => Kd.R_below h hb
/-- What was read, and where it lies. -/
structure Kept (w : World) (b1 b2 b3 : Nat) (C : Cmd) (R : Cr.Rep S93) (L : Log) (A3 : Option Addr) (k3 : Nat) (A5 : Option Addr) (k5 : Nat) (A7 : Option Addr) (k7 : Nat) (A8 : Option Addr) (k8 : Nat) (W : World) : Prop where
  n3 : RX Kd.string 9 W (.slice A3 C.names.length k3) C.names
  n5 : RX k93 93 W (.slice A5 R.ents.length k5) R.ents
  n7 : RX Kd.string 9 W (.slice A7 L.cmd.names.length k7) L.cmd.names
  n8 : RX (Kd.int .i64) 3 W (.slice A8 L.nodes.length k8) L.nodes
  x1 : W.heap[b1]? = some (.cells (cmdC C A3 k3) 25 (0, 0))
  x2 : W.heap[b2]? = some (.cells (repC R (.slice A5 R.ents.length k5)) 45 (0, 0))
  x3 : W.heap[b3]? = some (.cells (logD L A7 k7 A8 k8) 38 (0, 0))
  b : Below w.heap.size w W
theorem Kept.below {w W W1 : World} {b1 b2 b3 : Nat} {C : Cmd} {R : Cr.Rep S93} {L : Log} {A3 A5 A7 A8 : Option Addr} {k3 k5 k7 k8 : Nat} (h : Kept w b1 b2 b3 C R L A3 k3 A5 k5 A7 k7 A8 k8 W) (hb : Below W.heap.size W W1) : Kept w b1 b2 b3 C R L A3 k3 A5 k5 A7 k7 A8 k8 W1 :=
  ⟨h.n3.below hb, h.n5.below hb, h.n7.below hb, h.n8.below hb, blk_below h.x1 hb, blk_below h.x2 hb, blk_below h.x3 hb, bthen h.b hb⟩
theorem RX.over {α : Type} {d : Kd α} {e : TypeId} {W W1 : World} {v u : Value} {l : List α} {base : Nat} {ys : List Int} (h : RX d e W v l) (ho : Kd.R (Kd.int .u8) 5 W base (fun _ => True) u ys) (ht : ∀ q, q ∈ e :: d.E → q ≠ 5) (hg : W.grownBy W1 u.ownBlock) : RX d e W1 v l := h.imp fun _ h => Kd.R_over' h (Kd.R_typed ho) ht hg
theorem Kept.put {w W : World} {b1 b2 b3 : Nat} {C : Cmd} {R : Cr.Rep S93} {L : Log} {A3 A5 A7 A8 : Option Addr} {k3 k5 k7 k8 : Nat} {g n co : Nat} {ys : List Int} (h : Kept w b1 b2 b3 C R L A3 k3 A5 k5 A7 k7 A8 k8 W) (ho : Kd.R (Kd.int .u8) 5 W w.heap.size (fun _ => True) (.slice (some ⟨g, 0, none⟩) n co) ys) (hgw : w.heap.size ≤ g) (i x : Int) :
    Kept w b1 b2 b3 C R L A3 k3 A5 k5 A7 k7 A8 k8 (W.setCell ⟨g, i.toNat, none⟩ (.int .u8 x)) := by
  have hg := (Kd.R_putg ho i x).2
  obtain ⟨cells, hc⟩ := Kd.R_typed ho g rfl
  exact ⟨h.n3.over ho (by decide) hg, h.n5.over ho (by decide) hg, h.n7.over ho (by decide) hg, h.n8.over ho (by decide) hg,
    blk_far h.x1 (p := ⟨g, i.toNat, none⟩) (blk_ne h.x1 hc (by decide)) _, blk_far h.x2 (p := ⟨g, i.toNat, none⟩) (blk_ne h.x2 hc (by decide)) _, blk_far h.x3 (p := ⟨g, i.toNat, none⟩) (blk_ne h.x3 hc (by decide)) _, below_set h.b hgw⟩
theorem RX.kept {α : Type} {d : Kd α} {e : TypeId} {w W W1 : World} {v : Value} {l : List α} {g c0 : Nat} {A0 : Option Addr} {xs : List Int} {a : Int} {s f : Bool} (h : RX d e W v l) (hI : IsS50 A0 c0 w W g xs a s f) (ht : ∀ q, q ∈ e :: d.E → q ≠ 50) (hk : KeepBut W W1 g none) : RX d e W1 v l := h.imp fun _ h => Kd.R_mono (Kd.R_keep (hI.apart h ht) hk (fun _ h => h.2)) (fun _ _ => trivial)
theorem Kept.keep {w W W1 : World} {b1 b2 b3 : Nat} {C : Cmd} {R : Cr.Rep S93} {L : Log} {A3 A5 A7 A8 : Option Addr} {k3 k5 k7 k8 : Nat} {g c0 : Nat} {A0 : Option Addr} {xs : List Int} {a : Int} {s f : Bool} (h : Kept w b1 b2 b3 C R L A3 k3 A5 k5 A7 k7 A8 k8 W) (hI : IsS50 A0 c0 w W g xs a s f) (hk : KeepBut W W1 g none) (hb : Below w.heap.size w W1) : Kept w b1 b2 b3 C R L A3 k3 A5 k5 A7 k7 A8 k8 W1 :=
  ⟨h.n3.kept hI (by decide) hk, h.n5.kept hI (by decide) hk, h.n7.kept hI (by decide) hk, h.n8.kept hI (by decide) hk,
    hk.blk h.x1 (hI.ne_blk h.x1 (by decide)).symm (by simp), hk.blk h.x2 (hI.ne_blk h.x2 (by decide)).symm (by simp), hk.blk h.x3 (hI.ne_blk h.x3 (by decide)).symm (by simp), hb⟩
theorem tapeKeep {w W W1 : World} {g g1 c0 : Nat} {A0 : Option Addr} {xs : List Int} {a : Int} {s f : Bool} (h : IsS50 A0 c0 w W g xs a s f) (hne : g ≠ g1) (hk : KeepBut W W1 g1 none) : IsS50 A0 c0 w W1 g xs a s f := by
  obtain ⟨A, c, hb, hr⟩ := h
  exact ⟨A, c, hk.blk hb hne (by simp), hr⟩
theorem RX.c {α : Type} {d : Kd α} {e : TypeId} {W : World} {A : Option Addr} {n c : Nat} {l : List α} (h : RX d e W (.slice A n c) l) : Kd.C d W A l.length l := (Kd.R_reads' h.choose_spec).2.2
theorem RX.le {α : Type} {d : Kd α} {e : TypeId} {W : World} {A : Option Addr} {c : Nat} {l : List α} (h : RX d e W (.slice A l.length c) l) : l.length ≤ c := (Kd.R_reads' h.choose_spec).2.1
theorem RX.conv {W : World} {v : Value} {l : List Int} (h : RX (Kd.int .u8) 5 W v l) : (convert 27 9 v).run Try.prog W = .ok (.string (strOfNums l)) W := own_string (P := Try.prog) Try.underlying27 Try.underlying5 Try.underlying9 (Kd.own_of_R h.choose_spec)
theorem logCmd {W : World} {b : Nat} {l : Log} {A A2 : Option Addr} {k k2 : Nat} (h : W.heap[b]? = some (.cells (logD l A k A2 k2) 38 (0, 0))) : (Instr.loadAt 25 (.pointer (some ⟨b, 2, none⟩))).run Try.prog W = .ok (.agg (cmdC l.cmd A k)) W := by
  refine run_loadAt_mid W b 2 25 (cmdC l.cmd A k).toList _ (fun j v hv => ?_) Try.underlying25 rfl infoC
  have hj : j < 11 := by
    rcases Nat.lt_or_ge j 11 with hj | hj
    · exact hj
    · rw [List.getElem?_eq_none (by simpa using hj)] at hv; cases hv
  rw [cell_of_row W b (2 + j) _ 38 (0, 0) h, ← hv]
  obtain rfl | rfl | rfl | rfl | rfl | rfl | rfl | rfl | rfl | rfl | rfl : j = 0 ∨ j = 1 ∨ j = 2 ∨ j = 3 ∨ j = 4 ∨ j = 5 ∨ j = 6 ∨ j = 7 ∨ j = 8 ∨ j = 9 ∨ j = 10 := by omega
  all_goals rfl
theorem logCell {W : World} {b : Nat} {cs : Array Value} {t : TypeId} {ty : TypeId} {v : Value} (h : W.heap[b]? = some (.cells cs t (0, 0))) (i : Nat) (hv : cs[i]? = some v) (hn : (isAgg ty).run Try.prog W = .ok false W) : (Instr.loadAt ty (.pointer (some ⟨b, i, none⟩))).run Try.prog W = .ok v W := by
  have hc : W.cell? ⟨b, i, none⟩ = some v := (cell_of_row W b i cs t (0, 0) h).trans hv
  simp [Instr.loadAt, Instr.sureAddr, loadVar, hn, hc]
theorem buildR (w : World) : (Instr.build 45 #[]).run Try.prog w = .ok (.agg zR) w := by kernel_rfl
theorem zeroRep : ∃ zb, XCodecGets.calepinref15_Reply.f 10 0 0 (⟨#[]⟩ : ByteArray) ([] : List S93) (⟨#[]⟩ : ByteArray) = some zb := ⟨_, XCodecGets.reply_f 0 0 0 (⟨#[]⟩ : ByteArray) ([] : List S93) (⟨#[]⟩ : ByteArray) (by decide +kernel) (by simp)⟩
end Go.Proofs.Ytjhcbggpbfejgaa.Gw
namespace Go.Proofs.Ytjhcbggpbfejgaa.XCodecGets
open Go.Proofs.Ytjhcbggpbfejgaa.Cp
theorem facts (xs : List Int) (hb : Bs xs) (hl : xs.length ≤ 50000) : CmdA xs (getCommand xs).2 (getCommand xs).1 (cmdR (xs, 0)).1 ∧ RepA xs (Cr.getReply mk93 xs).2 (Cr.getReply mk93 xs).1 (Cr.repR mk93 (xs, 0)).1 ∧ LogA xs (getLog xs).2 (getLog xs).1 (logR (xs, 0)).1 := by
  have hc : CmdA xs (getCommand xs).2 (getCommand xs).1 (cmdR (xs, 0)).1 := by
    refine ⟨fun h => ?_, fun h => ?_⟩
    · obtain ⟨h1, h2⟩ := getCommand_whole xs hb h
      have h3 : (getCommand xs).1 = (cmdR (xs, 0)).1 := congrArg Prod.fst h2
      exact ⟨h1, h3.symm, by rw [h3]; exact (cmdR_small (xs, 0) xs.length (Nat.le_refl _) (by omega)).1⟩
    · unfold getCommand at h ⊢
      split
      · rename_i c; rw [if_pos c] at h; exact absurd rfl h
      · rfl
  have hr : RepA xs (Cr.getReply mk93 xs).2 (Cr.getReply mk93 xs).1 (Cr.repR mk93 (xs, 0)).1 := by
    refine ⟨fun h => ?_, fun h => ?_⟩
    · obtain ⟨h1, h2⟩ := Cr.getReply_whole q93 mk93 (fun _ => rfl) xs hb h
      have h3 : (Cr.getReply mk93 xs).1 = (Cr.repR mk93 (xs, 0)).1 := congrArg Prod.fst h2
      refine ⟨h1, h3.symm, ?_⟩
      have := ebs_ge (Cr.getReply mk93 xs).1.ents
      have h4 := congrArg List.length h1
      simp only [Cw.encQ, List.length_append, be8_len, txt_len] at h4
      omega
    · unfold Cr.getReply at h ⊢
      split
      · rename_i c; rw [if_pos c] at h; exact absurd rfl h
      · rfl
  have hlog : LogA xs (getLog xs).2 (getLog xs).1 (logR (xs, 0)).1 := by
    have hz := logR_in (xs, 0) xs.length (Nat.le_refl _) (by omega)
    refine ⟨?_, hz, fun h => ?_, fun h => ?_⟩
    · unfold getLog
      split
      · exact hz
      · exact zeroLog_in _
    · obtain ⟨h1, h2⟩ := getLog_whole xs hb (by omega) h
      have h3 : (getLog xs).1 = (logR (xs, 0)).1 := congrArg Prod.fst h1
      exact ⟨h2, by rw [← h3]; exact h2⟩
    · unfold getLog at h ⊢
      split
      · rename_i c; rw [if_pos c] at h; exact absurd rfl h
      · rfl
  exact ⟨hc, hr, hlog⟩
theorem CmdA.reads {xs : List Int} {e : Int} {c x : Cmd} (h : CmdA xs e c x) (hl : xs.length ≤ 50000) (he : e = 0) : ∃ k, calepinref15_Command.f k c.op c.book c.name c.data c.mat c.non c.token c.names c.at_ c.session c.seq = some xs ∧ calepinref15_Command.f k x.op x.book x.name x.data x.mat x.non x.token x.names x.at_ x.session x.seq = some xs := by
  obtain ⟨h1, h2, h3⟩ := h.yes he
  subst h2
  have := command_f xs.length x (by rw [h1]; omega) h3
  rw [h1] at this
  exact ⟨_, this, this⟩
theorem RepA.reads {xs : List Int} {e : Int} {r y : Cr.Rep S93} (h : RepA xs e r y) (hl : xs.length ≤ 50000) (he : e = 0) : ∃ k, calepinref15_Reply.f k r.st r.tag r.data r.ents r.token = some xs ∧ calepinref15_Reply.f k y.st y.tag y.data y.ents y.token = some xs := by
  obtain ⟨h1, h2, h3⟩ := h.yes he
  subst h2
  have := reply_f xs.length y.st y.tag y.data y.ents y.token (by rw [h1]; omega) h3
  rw [h1] at this
  exact ⟨_, this, this⟩
end Go.Proofs.Ytjhcbggpbfejgaa.XCodecGets
