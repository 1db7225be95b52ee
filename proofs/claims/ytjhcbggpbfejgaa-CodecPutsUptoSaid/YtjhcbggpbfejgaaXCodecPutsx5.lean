-- written by wip/xprint.py: the kit's print with functions walked by hand
import Derived.Test.YtjhcbggpbfejgaaXCodecPutsx0
import Derived.Test.YtjhcbggpbfejgaaXCodecPutsx1
import Derived.Test.YtjhcbggpbfejgaaXCodecPutsx3
import Derived.Test.YtjhcbggpbfejgaaXCodecPutsx4
namespace Go.Proofs.Ytjhcbggpbfejgaa.XCodecPuts
open Go.RowKit Go.Proofs.YtjhcbggpbfejgaaW.PrintWords Go.Proofs.YtjhcbggpbfejgaaW.PrintLast Go.Proofs.YtjhcbggpbfejgaaW.PrintMore
attribute [local go_sem] max2_int min2_int max_two min_two max_three min_three max_four min_four   -- for this text's walks alone
set_option linter.unusedVariables false
set_option linter.unusedSimpArgs false

/-! ### calepinlaw15_CodecPuts: function 6 -/
mutual
def calepinlaw15_CodecPuts.j0 : Nat → Bool → Int → Int → Int → ByteArray → ByteArray → ByteArray → ByteArray → ByteArray → ByteArray → List ByteArray → Int → Int → Int → List Int → Int → Int → ByteArray → List (S93) → ByteArray → Option (Bool)
  | 0, _, _, _, _, _, _, _, _, _, _, _, _, _, _, _, _, _, _, _, _ => none
  | k + 1, x58, x208000, x208001, x208002, x208003, x208004, x208005, x208006, x208007, x208008, x208009, x208010, x208011, x208012, x208013, x209000, x209001, x209002, x209003, x209004 => if x58 = true then (some false) else ((codec_PutReply.f x209000 x209001 x209002 x209003 x209004).bind fun t234 => ((codec_GetReply.f t234).bind fun bt237 => ((calepinref15_Reply.f k x209000 x209001 x209002 x209003 x209004).bind fun t246 => (if (strOfNums t234).toList = (strOfNums t246).toList then (if bt237.2.2.2.2.2 = 0 then ((calepinref15_Reply.f k bt237.1 bt237.2.1 bt237.2.2.1 bt237.2.2.2.1 bt237.2.2.2.2.1).bind fun t249 => (calepinlaw15_CodecPuts.j1 k ((strOfNums t249).toList != (strOfNums t234).toList) x208000 x208001 x208002 x208003 x208004 x208005 x208006 x208007 x208008 x208009 x208010 x208011 x208012 x208013)) else (calepinlaw15_CodecPuts.j1 k true x208000 x208001 x208002 x208003 x208004 x208005 x208006 x208007 x208008 x208009 x208010 x208011 x208012 x208013)) else (calepinlaw15_CodecPuts.j1 k true x208000 x208001 x208002 x208003 x208004 x208005 x208006 x208007 x208008 x208009 x208010 x208011 x208012 x208013)))))
def calepinlaw15_CodecPuts.j1 : Nat → Bool → Int → Int → Int → ByteArray → ByteArray → ByteArray → ByteArray → ByteArray → ByteArray → List ByteArray → Int → Int → Int → List Int → Option (Bool)
  | 0, _, _, _, _, _, _, _, _, _, _, _, _, _, _, _ => none
  | k + 1, x83, x208000, x208001, x208002, x208003, x208004, x208005, x208006, x208007, x208008, x208009, x208010, x208011, x208012, x208013 => if x83 = true then (some false) else ((codec_PutLog.f x208000 x208001 x208002 x208003 x208004 x208005 x208006 x208007 x208008 x208009 x208010 x208011 x208012 x208013).bind fun bt252 => ((calepinref15_Log.f k x208000 x208001 x208002 x208003 x208004 x208005 x208006 x208007 x208008 x208009 x208010 x208011 x208012 x208013).bind fun bt256 => (if bt256.2 = true then ((codec_GetLog.f bt252.1).bind fun bt260 => ((calepinref15_Log.f k bt260.1 bt260.2.1 bt260.2.2.1 bt260.2.2.2.1 bt260.2.2.2.2.1 bt260.2.2.2.2.2.1 bt260.2.2.2.2.2.2.1 bt260.2.2.2.2.2.2.2.1 bt260.2.2.2.2.2.2.2.2.1 bt260.2.2.2.2.2.2.2.2.2.1 bt260.2.2.2.2.2.2.2.2.2.2.1 bt260.2.2.2.2.2.2.2.2.2.2.2.1 bt260.2.2.2.2.2.2.2.2.2.2.2.2.1 bt260.2.2.2.2.2.2.2.2.2.2.2.2.2.1).bind fun bt280 => (if bt252.2 = 0 then (if (strOfNums bt252.1).toList = (strOfNums bt256.1).toList then (if bt260.2.2.2.2.2.2.2.2.2.2.2.2.2.2 = 0 then (if bt280.2 = true then (some ((strOfNums bt280.1).toList == (strOfNums bt256.1).toList)) else (some false)) else (some false)) else (some false)) else (some false)))) else (if bt252.2 = 31 then (some ((bt252.1.length : Int) == 0)) else (some false)))))
end
def calepinlaw15_CodecPuts.f (k : Nat) (a0_0 : Int) (a0_1 : Int) (a0_2 : Int) (a0_3 : ByteArray) (a0_4 : ByteArray) (a0_5 : ByteArray) (a0_6 : ByteArray) (a0_7 : ByteArray) (a0_8 : ByteArray) (l0_9 : List ByteArray) (a0_10 : Int) (a0_11 : Int) (a0_12 : Int) (l0_13 : List Int) (a1_0 : Int) (a1_1 : Int) (a1_2 : ByteArray) (l1_3 : List (S93)) (a1_4 : ByteArray) : Option (Bool) := (calepinlaw15_first.f).bind fun t209 => (if t209 = true then (if (wrap64 ((wrap64 ((l0_9.length : Int) + (l0_13.length : Int))) + (l1_3.length : Int))) > 300 then (some true) else ((codec_PutCommand.f a0_2 a0_3 a0_4 a0_5 a0_6 a0_7 a0_8 l0_9 a0_10 a0_11 a0_12).bind fun t210 => ((codec_GetCommand.f t210).bind fun bt213 => ((calepinref15_Command.f k a0_2 a0_3 a0_4 a0_5 a0_6 a0_7 a0_8 l0_9 a0_10 a0_11 a0_12).bind fun t228 => (if (strOfNums t210).toList = (strOfNums t228).toList then (if bt213.2.2.2.2.2.2.2.2.2.2.2 = 0 then ((calepinref15_Command.f k bt213.1 bt213.2.1 bt213.2.2.1 bt213.2.2.2.1 bt213.2.2.2.2.1 bt213.2.2.2.2.2.1 bt213.2.2.2.2.2.2.1 bt213.2.2.2.2.2.2.2.1 bt213.2.2.2.2.2.2.2.2.1 bt213.2.2.2.2.2.2.2.2.2.1 bt213.2.2.2.2.2.2.2.2.2.2.1).bind fun t231 => (calepinlaw15_CodecPuts.j0 k ((strOfNums t231).toList != (strOfNums t210).toList) a0_0 a0_1 a0_2 a0_3 a0_4 a0_5 a0_6 a0_7 a0_8 l0_9 a0_10 a0_11 a0_12 l0_13 a1_0 a1_1 a1_2 l1_3 a1_4)) else (calepinlaw15_CodecPuts.j0 k true a0_0 a0_1 a0_2 a0_3 a0_4 a0_5 a0_6 a0_7 a0_8 l0_9 a0_10 a0_11 a0_12 l0_13 a1_0 a1_1 a1_2 l1_3 a1_4)) else (calepinlaw15_CodecPuts.j0 k true a0_0 a0_1 a0_2 a0_3 a0_4 a0_5 a0_6 a0_7 a0_8 l0_9 a0_10 a0_11 a0_12 l0_13 a1_0 a1_1 a1_2 l1_3 a1_4)))))) else (some false))
theorem calepinlaw15_CodecPuts.mono_l : ∀ k, (∀ y0 y1 y2 y3 y4 y5 y6 y7 y8 y9 y10 y11 y12 y13 y14 y15 y16 y17 y18 y19, LeO (calepinlaw15_CodecPuts.j0 k y0 y1 y2 y3 y4 y5 y6 y7 y8 y9 y10 y11 y12 y13 y14 y15 y16 y17 y18 y19) (calepinlaw15_CodecPuts.j0 (k + 1) y0 y1 y2 y3 y4 y5 y6 y7 y8 y9 y10 y11 y12 y13 y14 y15 y16 y17 y18 y19)) ∧ (∀ y0 y1 y2 y3 y4 y5 y6 y7 y8 y9 y10 y11 y12 y13 y14, LeO (calepinlaw15_CodecPuts.j1 k y0 y1 y2 y3 y4 y5 y6 y7 y8 y9 y10 y11 y12 y13 y14) (calepinlaw15_CodecPuts.j1 (k + 1) y0 y1 y2 y3 y4 y5 y6 y7 y8 y9 y10 y11 y12 y13 y14))
  | 0 => ⟨fun _ _ _ _ _ _ _ _ _ _ _ _ _ _ _ _ _ _ _ _ r h => by simp [calepinlaw15_CodecPuts.j0] at h, fun _ _ _ _ _ _ _ _ _ _ _ _ _ _ _ r h => by simp [calepinlaw15_CodecPuts.j1] at h⟩
  | k + 1 => by
    obtain ⟨ih0, ih1⟩ := calepinlaw15_CodecPuts.mono_l k
    refine ⟨?_, ?_⟩
    · intro y0 y1 y2 y3 y4 y5 y6 y7 y8 y9 y10 y11 y12 y13 y14 y15 y16 y17 y18 y19
      unfold calepinlaw15_CodecPuts.j0
      repeat' first
      | (with_reducible exact ih0 _ _ _ _ _ _ _ _ _ _ _ _ _ _ _ _ _ _ _ _)
      | (with_reducible exact ih1 _ _ _ _ _ _ _ _ _ _ _ _ _ _ _)
      | (with_reducible exact calepinref15_Command.mono _ _ _ _ _ _ _ _ _ _ _ _)
      | (with_reducible exact calepinref15_Log.mono _ _ _ _ _ _ _ _ _ _ _ _ _ _ _)
      | (with_reducible exact calepinref15_Reply.mono _ _ _ _ _ _)
      | (with_reducible exact LeO.refl _)
      | (with_reducible exact LeO.none _)
      | (with_reducible refine LeO.ite ?_ ?_)
      | (with_reducible refine LeO.bind ?_ (fun _ => ?_))
      | exact ih0 _ _ _ _ _ _ _ _ _ _ _ _ _ _ _ _ _ _ _ _
      | exact ih1 _ _ _ _ _ _ _ _ _ _ _ _ _ _ _
      | exact calepinref15_Command.mono _ _ _ _ _ _ _ _ _ _ _ _
      | exact calepinref15_Log.mono _ _ _ _ _ _ _ _ _ _ _ _ _ _ _
      | exact calepinref15_Reply.mono _ _ _ _ _ _
      | exact LeO.none _
      | refine LeO.ite ?_ ?_
      | refine LeO.bind ?_ (fun _ => ?_)
    · intro y0 y1 y2 y3 y4 y5 y6 y7 y8 y9 y10 y11 y12 y13 y14
      unfold calepinlaw15_CodecPuts.j1
      repeat' first
      | (with_reducible exact ih0 _ _ _ _ _ _ _ _ _ _ _ _ _ _ _ _ _ _ _ _)
      | (with_reducible exact ih1 _ _ _ _ _ _ _ _ _ _ _ _ _ _ _)
      | (with_reducible exact calepinref15_Command.mono _ _ _ _ _ _ _ _ _ _ _ _)
      | (with_reducible exact calepinref15_Log.mono _ _ _ _ _ _ _ _ _ _ _ _ _ _ _)
      | (with_reducible exact calepinref15_Reply.mono _ _ _ _ _ _)
      | (with_reducible exact LeO.refl _)
      | (with_reducible exact LeO.none _)
      | (with_reducible refine LeO.ite ?_ ?_)
      | (with_reducible refine LeO.bind ?_ (fun _ => ?_))
      | exact ih0 _ _ _ _ _ _ _ _ _ _ _ _ _ _ _ _ _ _ _ _
      | exact ih1 _ _ _ _ _ _ _ _ _ _ _ _ _ _ _
      | exact calepinref15_Command.mono _ _ _ _ _ _ _ _ _ _ _ _
      | exact calepinref15_Log.mono _ _ _ _ _ _ _ _ _ _ _ _ _ _ _
      | exact calepinref15_Reply.mono _ _ _ _ _ _
      | exact LeO.none _
      | refine LeO.ite ?_ ?_
      | refine LeO.bind ?_ (fun _ => ?_)
theorem calepinlaw15_CodecPuts.mono : ∀ a0 a1 a2 a3 a4 a5 a6 a7 a8 a9 a10 a11 a12 a13 a14 a15 a16 a17 a18 k, LeO (calepinlaw15_CodecPuts.f k a0 a1 a2 a3 a4 a5 a6 a7 a8 a9 a10 a11 a12 a13 a14 a15 a16 a17 a18) (calepinlaw15_CodecPuts.f (k + 1) a0 a1 a2 a3 a4 a5 a6 a7 a8 a9 a10 a11 a12 a13 a14 a15 a16 a17 a18) := by
  intro a0 a1 a2 a3 a4 a5 a6 a7 a8 a9 a10 a11 a12 a13 a14 a15 a16 a17 a18 k
  obtain ⟨ih0, ih1⟩ := calepinlaw15_CodecPuts.mono_l k
  unfold calepinlaw15_CodecPuts.f
  repeat' first
      | (with_reducible exact ih0 _ _ _ _ _ _ _ _ _ _ _ _ _ _ _ _ _ _ _ _)
      | (with_reducible exact ih1 _ _ _ _ _ _ _ _ _ _ _ _ _ _ _)
      | (with_reducible exact calepinref15_Command.mono _ _ _ _ _ _ _ _ _ _ _ _)
      | (with_reducible exact calepinref15_Log.mono _ _ _ _ _ _ _ _ _ _ _ _ _ _ _)
      | (with_reducible exact calepinref15_Reply.mono _ _ _ _ _ _)
      | (with_reducible exact LeO.refl _)
      | (with_reducible exact LeO.none _)
      | (with_reducible refine LeO.ite ?_ ?_)
      | (with_reducible refine LeO.bind ?_ (fun _ => ?_))
      | exact ih0 _ _ _ _ _ _ _ _ _ _ _ _ _ _ _ _ _ _ _ _
      | exact ih1 _ _ _ _ _ _ _ _ _ _ _ _ _ _ _
      | exact calepinref15_Command.mono _ _ _ _ _ _ _ _ _ _ _ _
      | exact calepinref15_Log.mono _ _ _ _ _ _ _ _ _ _ _ _ _ _ _
      | exact calepinref15_Reply.mono _ _ _ _ _ _
      | exact LeO.none _
      | refine LeO.ite ?_ ?_
      | refine LeO.bind ?_ (fun _ => ?_)
def calepinlaw15_CodecPuts.T7 : Bool × List (List Nat × List Nat) := (true, [([], []), ([0], [0]), ([], []), ([2], [2]), ([3], [3]), ([4], [4]), ([1, 5], [1, 5]), ([6, 4], [6]), ([7], [7]), ([8, 7], [7, 8]), ([7, 9], [7, 9]), ([10, 7], [10]), ([11], [11]), ([12, 11, 11], [11, 12]), ([13, 11], [11, 13]), ([11], [11]), ([15, 11], [11, 15]), ([14, 16, 11], [11, 14, 16]), ([11, 17], [11, 17])])
def calepinlaw15_CodecPuts.B7 : List Nat := [0, 1, 0, 4, 12, 28, 63, 127, 255, 511, 1023, 2047, 4095, 8191, 16383, 4095, 36863, 131071, 262143]
theorem calepinlaw15_CodecPuts.tab7 : rtab .any (opsOf Try.f6 7) = calepinlaw15_CodecPuts.T7 := by kernel_rfl
theorem calepinlaw15_CodecPuts.bits7 : waitsOk calepinlaw15_CodecPuts.T7.2 calepinlaw15_CodecPuts.B7 = true := by kernel_rfl
def calepinlaw15_CodecPuts.T11 : Bool × List (List Nat × List Nat) := (true, [([], []), ([0], [0]), ([], []), ([2], [2]), ([3], [3]), ([1, 4], [1, 4]), ([5, 3], [5]), ([6], [6]), ([7, 6], [6, 7]), ([6, 8], [6, 8]), ([9, 6], [9]), ([10], [10]), ([11, 10, 10], [10, 11]), ([12, 10], [10, 12]), ([10], [10]), ([14, 10], [10, 14]), ([13, 15, 10], [10, 13, 15]), ([10, 16], [10, 16])])
def calepinlaw15_CodecPuts.B11 : List Nat := [0, 1, 0, 4, 12, 31, 63, 127, 255, 511, 1023, 2047, 4095, 8191, 2047, 18431, 65535, 131071]
theorem calepinlaw15_CodecPuts.tab11 : rtab .any (opsOf Try.f6 11) = calepinlaw15_CodecPuts.T11 := by kernel_rfl
theorem calepinlaw15_CodecPuts.bits11 : waitsOk calepinlaw15_CodecPuts.T11.2 calepinlaw15_CodecPuts.B11 = true := by kernel_rfl
theorem j0_no {k : Nat} {a0 a1 a2 : Int} {a3 a4 a5 a6 a7 a8 : ByteArray} {a9 : List ByteArray} {a10 a11 a12 : Int} {a13 : List Int} {a14 a15 : Int} {a16 : ByteArray} {a17 : List S93} {a18 : ByteArray} (h : calepinlaw15_CodecPuts.j0 k true a0 a1 a2 a3 a4 a5 a6 a7 a8 a9 a10 a11 a12 a13 a14 a15 a16 a17 a18 = some true) : False := by
  cases k <;> simp [calepinlaw15_CodecPuts.j0] at h
theorem j1_no {k : Nat} {a0 a1 a2 : Int} {a3 a4 a5 a6 a7 a8 : ByteArray} {a9 : List ByteArray} {a10 a11 a12 : Int} {a13 : List Int} (h : calepinlaw15_CodecPuts.j1 k true a0 a1 a2 a3 a4 a5 a6 a7 a8 a9 a10 a11 a12 a13 = some true) : False := by
  cases k <;> simp [calepinlaw15_CodecPuts.j1] at h
end Go.Proofs.Ytjhcbggpbfejgaa.XCodecPuts
