import Derived.Test.YtbegahbagnflnaaGreatDoorMn16
import Derived.Test.YtbegahbagnflnaaGreatDoorMn25
import Derived.Test.YtbegahbagnflnaaGreatDoorMn02
set_option linter.unusedSimpArgs false
set_option linter.unusedVariables false
set_option linter.unnecessarySimpa false
namespace Go.Proofs.YtbegahbagnflnaaGreatDoor
section
open Go.RowKit
theorem results_tmp4 {fn : Func} {t u v x : Tmp} (h : fn.results = #[.tmp t, .tmp u, .tmp v, .tmp x]) (tmps : Array Value) (P : Program) (w : World) :
  (results fn tmps).run P w = .ok (.tuple #[tmps.getD t undef, tmps.getD u undef, tmps.getD v undef, tmps.getD x undef]) w := by
 simp [results, h]
def NeedPost (op a : Int) (s : ByteArray) (w : World) (e : Ending) (w' : World) : Prop :=
 e = .returned (.tuple #[.int .i64 (ndT op a (decide (s = ⟨#[]⟩))), .int .i64 (ndG op), .int .i64 (ndTB op), .int .i64 (ndGB op)]) ∧ Fr (fun _ => False) w w'
set_option maxRecDepth 100000 in
set_option maxHeartbeats 1600000 in
theorem need1 (a b : Int) (s : ByteArray) (u4 u5 u6 u7 : Value) (w : World) : Calls Tryz.prog 66 #[.agg #[.int .i64 1, .int .i64 a, .int .i64 b, .string s, u4, u5, u6, u7]] w (NeedPost 1 a s w) := by
 have hf := hid ((Fr.refl (fun _ => False) w).alloc (.cells #[.int .i64 1, .int .i64 a, .int .i64 b, .string s, u4, u5, u6, u7] 93))
 go_enter Tryz.func66, Tryz.ntmps66
 go_wp2_with fail
 (try simp only [Exit.inBlock, Exit.then])
 refine bodyPost_ret (results_tmp4 rfl _ _ _) rfl ?_
 exact ⟨by simp [ndT, ndG, ndTB, ndGB], hf.out⟩
set_option maxRecDepth 100000 in
set_option maxHeartbeats 1600000 in
theorem need2 (a b : Int) (s : ByteArray) (u4 u5 u6 u7 : Value) (w : World) : Calls Tryz.prog 66 #[.agg #[.int .i64 2, .int .i64 a, .int .i64 b, .string s, u4, u5, u6, u7]] w (NeedPost 2 a s w) := by
 have hf := hid ((Fr.refl (fun _ => False) w).alloc (.cells #[.int .i64 2, .int .i64 a, .int .i64 b, .string s, u4, u5, u6, u7] 93))
 go_enter Tryz.func66, Tryz.ntmps66
 go_wp2_with fail
 (try simp only [Exit.inBlock, Exit.then])
 refine bodyPost_ret (results_tmp4 rfl _ _ _) rfl ?_
 exact ⟨by simp [ndT, ndG, ndTB, ndGB], hf.out⟩
set_option maxRecDepth 100000 in
set_option maxHeartbeats 1600000 in
theorem need28 (a b : Int) (s : ByteArray) (u4 u5 u6 u7 : Value) (w : World) : Calls Tryz.prog 66 #[.agg #[.int .i64 28, .int .i64 a, .int .i64 b, .string s, u4, u5, u6, u7]] w (NeedPost 28 a s w) := by
 have hf := hid ((Fr.refl (fun _ => False) w).alloc (.cells #[.int .i64 28, .int .i64 a, .int .i64 b, .string s, u4, u5, u6, u7] 93))
 go_enter Tryz.func66, Tryz.ntmps66
 go_wp2_with fail
 (try simp only [Exit.inBlock, Exit.then])
 refine bodyPost_ret (results_tmp4 rfl _ _ _) rfl ?_
 exact ⟨by simp [ndT, ndG, ndTB, ndGB], hf.out⟩
set_option maxRecDepth 100000 in
set_option maxHeartbeats 1600000 in
theorem need3 (a b : Int) (s : ByteArray) (u4 u5 u6 u7 : Value) (w : World) : Calls Tryz.prog 66 #[.agg #[.int .i64 3, .int .i64 a, .int .i64 b, .string s, u4, u5, u6, u7]] w (NeedPost 3 a s w) := by
 have hf := hid ((Fr.refl (fun _ => False) w).alloc (.cells #[.int .i64 3, .int .i64 a, .int .i64 b, .string s, u4, u5, u6, u7] 93))
 go_enter Tryz.func66, Tryz.ntmps66
 go_wp2_with fail
 (try simp only [Exit.inBlock, Exit.then])
 refine bodyPost_ret (results_tmp4 rfl _ _ _) rfl ?_
 exact ⟨by simp [ndT, ndG, ndTB, ndGB], hf.out⟩
set_option maxRecDepth 100000 in
set_option maxHeartbeats 1600000 in
theorem need7 (a b : Int) (s : ByteArray) (u4 u5 u6 u7 : Value) (w : World) : Calls Tryz.prog 66 #[.agg #[.int .i64 7, .int .i64 a, .int .i64 b, .string s, u4, u5, u6, u7]] w (NeedPost 7 a s w) := by
 have hf := hid ((Fr.refl (fun _ => False) w).alloc (.cells #[.int .i64 7, .int .i64 a, .int .i64 b, .string s, u4, u5, u6, u7] 93))
 go_enter Tryz.func66, Tryz.ntmps66
 go_wp2_with fail
 (try simp only [Exit.inBlock, Exit.then])
 refine bodyPost_ret (results_tmp4 rfl _ _ _) rfl ?_
 exact ⟨by simp [ndT, ndG, ndTB, ndGB], hf.out⟩
set_option maxRecDepth 100000 in
set_option maxHeartbeats 1600000 in
theorem need45 (a b : Int) (s : ByteArray) (u4 u5 u6 u7 : Value) (w : World) : Calls Tryz.prog 66 #[.agg #[.int .i64 45, .int .i64 a, .int .i64 b, .string s, u4, u5, u6, u7]] w (NeedPost 45 a s w) := by
 have hf := hid ((Fr.refl (fun _ => False) w).alloc (.cells #[.int .i64 45, .int .i64 a, .int .i64 b, .string s, u4, u5, u6, u7] 93))
 go_enter Tryz.func66, Tryz.ntmps66
 go_wp2_with fail
 (try simp only [Exit.inBlock, Exit.then])
 refine bodyPost_ret (results_tmp4 rfl _ _ _) rfl ?_
 exact ⟨by simp [ndT, ndG, ndTB, ndGB], hf.out⟩
set_option maxRecDepth 100000 in
set_option maxHeartbeats 1600000 in
theorem need44 (a b : Int) (s : ByteArray) (u4 u5 u6 u7 : Value) (w : World) : Calls Tryz.prog 66 #[.agg #[.int .i64 44, .int .i64 a, .int .i64 b, .string s, u4, u5, u6, u7]] w (NeedPost 44 a s w) := by
 have hf := hid ((Fr.refl (fun _ => False) w).alloc (.cells #[.int .i64 44, .int .i64 a, .int .i64 b, .string s, u4, u5, u6, u7] 93))
 go_enter Tryz.func66, Tryz.ntmps66
 go_wp2_with fail
 (try simp only [Exit.inBlock, Exit.then])
 refine bodyPost_ret (results_tmp4 rfl _ _ _) rfl ?_
 exact ⟨by simp [ndT, ndG, ndTB, ndGB], hf.out⟩
set_option maxRecDepth 100000 in
set_option maxHeartbeats 1600000 in
theorem need4 (a b : Int) (s : ByteArray) (u4 u5 u6 u7 : Value) (w : World) : Calls Tryz.prog 66 #[.agg #[.int .i64 4, .int .i64 a, .int .i64 b, .string s, u4, u5, u6, u7]] w (NeedPost 4 a s w) := by
 have hf := hid ((Fr.refl (fun _ => False) w).alloc (.cells #[.int .i64 4, .int .i64 a, .int .i64 b, .string s, u4, u5, u6, u7] 93))
 go_enter Tryz.func66, Tryz.ntmps66
 go_wp2_with fail
 (try simp only [Exit.inBlock, Exit.then])
 refine bodyPost_ret (results_tmp4 rfl _ _ _) rfl ?_
 exact ⟨by simp [ndT, ndG, ndTB, ndGB], hf.out⟩
set_option maxRecDepth 100000 in
set_option maxHeartbeats 1600000 in
theorem need20 (a b : Int) (s : ByteArray) (u4 u5 u6 u7 : Value) (w : World) : Calls Tryz.prog 66 #[.agg #[.int .i64 20, .int .i64 a, .int .i64 b, .string s, u4, u5, u6, u7]] w (NeedPost 20 a s w) := by
 have hf := hid ((Fr.refl (fun _ => False) w).alloc (.cells #[.int .i64 20, .int .i64 a, .int .i64 b, .string s, u4, u5, u6, u7] 93))
 go_enter Tryz.func66, Tryz.ntmps66
 go_wp2_with fail
 (try simp only [Exit.inBlock, Exit.then])
 refine bodyPost_ret (results_tmp4 rfl _ _ _) rfl ?_
 exact ⟨by simp [ndT, ndG, ndTB, ndGB], hf.out⟩
set_option maxRecDepth 100000 in
set_option maxHeartbeats 1600000 in
theorem need23 (a b : Int) (s : ByteArray) (u4 u5 u6 u7 : Value) (w : World) : Calls Tryz.prog 66 #[.agg #[.int .i64 23, .int .i64 a, .int .i64 b, .string s, u4, u5, u6, u7]] w (NeedPost 23 a s w) := by
 have hf := hid ((Fr.refl (fun _ => False) w).alloc (.cells #[.int .i64 23, .int .i64 a, .int .i64 b, .string s, u4, u5, u6, u7] 93))
 go_enter Tryz.func66, Tryz.ntmps66
 go_wp2_with fail
 (try simp only [Exit.inBlock, Exit.then])
 refine bodyPost_ret (results_tmp4 rfl _ _ _) rfl ?_
 exact ⟨by simp [ndT, ndG, ndTB, ndGB], hf.out⟩
set_option maxRecDepth 100000 in
set_option maxHeartbeats 1600000 in
theorem need19 (a b : Int) (s : ByteArray) (u4 u5 u6 u7 : Value) (w : World) : Calls Tryz.prog 66 #[.agg #[.int .i64 19, .int .i64 a, .int .i64 b, .string s, u4, u5, u6, u7]] w (NeedPost 19 a s w) := by
 have hf := hid ((Fr.refl (fun _ => False) w).alloc (.cells #[.int .i64 19, .int .i64 a, .int .i64 b, .string s, u4, u5, u6, u7] 93))
 go_enter Tryz.func66, Tryz.ntmps66
 go_wp2_with fail
 (try simp only [Exit.inBlock, Exit.then])
 refine bodyPost_ret (results_tmp4 rfl _ _ _) rfl ?_
 exact ⟨by simp [ndT, ndG, ndTB, ndGB], hf.out⟩
set_option maxRecDepth 100000 in
set_option maxHeartbeats 1600000 in
theorem need5 (a b : Int) (s : ByteArray) (u4 u5 u6 u7 : Value) (w : World) : Calls Tryz.prog 66 #[.agg #[.int .i64 5, .int .i64 a, .int .i64 b, .string s, u4, u5, u6, u7]] w (NeedPost 5 a s w) := by
 have hf := hid ((Fr.refl (fun _ => False) w).alloc (.cells #[.int .i64 5, .int .i64 a, .int .i64 b, .string s, u4, u5, u6, u7] 93))
 go_enter Tryz.func66, Tryz.ntmps66
 go_wp2_with fail
 (try simp only [Exit.inBlock, Exit.then])
 refine bodyPost_ret (results_tmp4 rfl _ _ _) rfl ?_
 exact ⟨by simp [ndT, ndG, ndTB, ndGB], hf.out⟩
set_option maxRecDepth 100000 in
set_option maxHeartbeats 1600000 in
theorem need10 (a b : Int) (s : ByteArray) (u4 u5 u6 u7 : Value) (w : World) : Calls Tryz.prog 66 #[.agg #[.int .i64 10, .int .i64 a, .int .i64 b, .string s, u4, u5, u6, u7]] w (NeedPost 10 a s w) := by
 have hf := hid ((Fr.refl (fun _ => False) w).alloc (.cells #[.int .i64 10, .int .i64 a, .int .i64 b, .string s, u4, u5, u6, u7] 93))
 go_enter Tryz.func66, Tryz.ntmps66
 go_wp2_with fail
 (try simp only [Exit.inBlock, Exit.then])
 refine bodyPost_ret (results_tmp4 rfl _ _ _) rfl ?_
 exact ⟨by simp [ndT, ndG, ndTB, ndGB], hf.out⟩
set_option maxRecDepth 100000 in
set_option maxHeartbeats 1600000 in
theorem need12 (a b : Int) (s : ByteArray) (u4 u5 u6 u7 : Value) (w : World) : Calls Tryz.prog 66 #[.agg #[.int .i64 12, .int .i64 a, .int .i64 b, .string s, u4, u5, u6, u7]] w (NeedPost 12 a s w) := by
 have hf := hid ((Fr.refl (fun _ => False) w).alloc (.cells #[.int .i64 12, .int .i64 a, .int .i64 b, .string s, u4, u5, u6, u7] 93))
 go_enter Tryz.func66, Tryz.ntmps66
 go_wp2_with fail
 (try simp only [Exit.inBlock, Exit.then])
 refine bodyPost_ret (results_tmp4 rfl _ _ _) rfl ?_
 exact ⟨by simp [ndT, ndG, ndTB, ndGB], hf.out⟩
set_option maxRecDepth 100000 in
set_option maxHeartbeats 1600000 in
theorem need11 (a b : Int) (s : ByteArray) (u4 u5 u6 u7 : Value) (w : World) : Calls Tryz.prog 66 #[.agg #[.int .i64 11, .int .i64 a, .int .i64 b, .string s, u4, u5, u6, u7]] w (NeedPost 11 a s w) := by
 have hf := hid ((Fr.refl (fun _ => False) w).alloc (.cells #[.int .i64 11, .int .i64 a, .int .i64 b, .string s, u4, u5, u6, u7] 93))
 go_enter Tryz.func66, Tryz.ntmps66
 go_wp2_with fail
 (try simp only [Exit.inBlock, Exit.then])
 refine bodyPost_ret (results_tmp4 rfl _ _ _) rfl ?_
 exact ⟨by simp [ndT, ndG, ndTB, ndGB], hf.out⟩
set_option maxRecDepth 100000 in
set_option maxHeartbeats 1600000 in
theorem need18 (a b : Int) (s : ByteArray) (u4 u5 u6 u7 : Value) (w : World) : Calls Tryz.prog 66 #[.agg #[.int .i64 18, .int .i64 a, .int .i64 b, .string s, u4, u5, u6, u7]] w (NeedPost 18 a s w) := by
 have hf := hid ((Fr.refl (fun _ => False) w).alloc (.cells #[.int .i64 18, .int .i64 a, .int .i64 b, .string s, u4, u5, u6, u7] 93))
 go_enter Tryz.func66, Tryz.ntmps66
 go_wp2_with fail
 (try simp only [Exit.inBlock, Exit.then])
 refine bodyPost_ret (results_tmp4 rfl _ _ _) rfl ?_
 exact ⟨by simp [ndT, ndG, ndTB, ndGB], hf.out⟩
set_option maxRecDepth 100000 in
set_option maxHeartbeats 1600000 in
theorem need21 (a b : Int) (s : ByteArray) (u4 u5 u6 u7 : Value) (w : World) : Calls Tryz.prog 66 #[.agg #[.int .i64 21, .int .i64 a, .int .i64 b, .string s, u4, u5, u6, u7]] w (NeedPost 21 a s w) := by
 have hf := hid ((Fr.refl (fun _ => False) w).alloc (.cells #[.int .i64 21, .int .i64 a, .int .i64 b, .string s, u4, u5, u6, u7] 93))
 go_enter Tryz.func66, Tryz.ntmps66
 go_wp2_with fail
 (try simp only [Exit.inBlock, Exit.then])
 refine bodyPost_ret (results_tmp4 rfl _ _ _) rfl ?_
 exact ⟨by simp [ndT, ndG, ndTB, ndGB], hf.out⟩
set_option maxRecDepth 100000 in
set_option maxHeartbeats 1600000 in
theorem need13 (a b : Int) (s : ByteArray) (u4 u5 u6 u7 : Value) (w : World) : Calls Tryz.prog 66 #[.agg #[.int .i64 13, .int .i64 a, .int .i64 b, .string s, u4, u5, u6, u7]] w (NeedPost 13 a s w) := by
 have hf := hid ((Fr.refl (fun _ => False) w).alloc (.cells #[.int .i64 13, .int .i64 a, .int .i64 b, .string s, u4, u5, u6, u7] 93))
 go_enter Tryz.func66, Tryz.ntmps66
 go_wp2_with fail
 (try simp only [Exit.inBlock, Exit.then])
 refine bodyPost_ret (results_tmp4 rfl _ _ _) rfl ?_
 exact ⟨by simp [ndT, ndG, ndTB, ndGB], hf.out⟩
set_option maxRecDepth 100000 in
set_option maxHeartbeats 1600000 in
theorem need14 (a b : Int) (s : ByteArray) (u4 u5 u6 u7 : Value) (w : World) : Calls Tryz.prog 66 #[.agg #[.int .i64 14, .int .i64 a, .int .i64 b, .string s, u4, u5, u6, u7]] w (NeedPost 14 a s w) := by
 have hf := hid ((Fr.refl (fun _ => False) w).alloc (.cells #[.int .i64 14, .int .i64 a, .int .i64 b, .string s, u4, u5, u6, u7] 93))
 go_enter Tryz.func66, Tryz.ntmps66
 go_wp2_with fail
 (try simp only [Exit.inBlock, Exit.then])
 refine bodyPost_ret (results_tmp4 rfl _ _ _) rfl ?_
 exact ⟨by simp [ndT, ndG, ndTB, ndGB], hf.out⟩
set_option maxRecDepth 100000 in
set_option maxHeartbeats 1600000 in
theorem need15 (a b : Int) (s : ByteArray) (u4 u5 u6 u7 : Value) (w : World) : Calls Tryz.prog 66 #[.agg #[.int .i64 15, .int .i64 a, .int .i64 b, .string s, u4, u5, u6, u7]] w (NeedPost 15 a s w) := by
 have hf := hid ((Fr.refl (fun _ => False) w).alloc (.cells #[.int .i64 15, .int .i64 a, .int .i64 b, .string s, u4, u5, u6, u7] 93))
 go_enter Tryz.func66, Tryz.ntmps66
 go_wp2_with fail
 (try simp only [Exit.inBlock, Exit.then])
 refine bodyPost_ret (results_tmp4 rfl _ _ _) rfl ?_
 exact ⟨by simp [ndT, ndG, ndTB, ndGB], hf.out⟩
set_option maxRecDepth 100000 in
set_option maxHeartbeats 1600000 in
theorem need16 (a b : Int) (s : ByteArray) (u4 u5 u6 u7 : Value) (w : World) : Calls Tryz.prog 66 #[.agg #[.int .i64 16, .int .i64 a, .int .i64 b, .string s, u4, u5, u6, u7]] w (NeedPost 16 a s w) := by
 have hf := hid ((Fr.refl (fun _ => False) w).alloc (.cells #[.int .i64 16, .int .i64 a, .int .i64 b, .string s, u4, u5, u6, u7] 93))
 go_enter Tryz.func66, Tryz.ntmps66
 go_wp2_with fail
 (try simp only [Exit.inBlock, Exit.then])
 refine bodyPost_ret (results_tmp4 rfl _ _ _) rfl ?_
 exact ⟨by simp [ndT, ndG, ndTB, ndGB], hf.out⟩
set_option maxRecDepth 100000 in
set_option maxHeartbeats 1600000 in
theorem need17 (a b : Int) (s : ByteArray) (u4 u5 u6 u7 : Value) (w : World) : Calls Tryz.prog 66 #[.agg #[.int .i64 17, .int .i64 a, .int .i64 b, .string s, u4, u5, u6, u7]] w (NeedPost 17 a s w) := by
 have hf := hid ((Fr.refl (fun _ => False) w).alloc (.cells #[.int .i64 17, .int .i64 a, .int .i64 b, .string s, u4, u5, u6, u7] 93))
 go_enter Tryz.func66, Tryz.ntmps66
 go_wp2_with fail
 (try simp only [Exit.inBlock, Exit.then])
 refine bodyPost_ret (results_tmp4 rfl _ _ _) rfl ?_
 exact ⟨by simp [ndT, ndG, ndTB, ndGB], hf.out⟩
set_option maxRecDepth 100000 in
set_option maxHeartbeats 1600000 in
theorem need22e (a b : Int) (s : ByteArray) (u4 u5 u6 u7 : Value) (hs : s.toList.isEmpty = true) (ha : -1099511627776 ≤ a ∧ a ≤ 1099511627776) (w : World) : Calls Tryz.prog 66 #[.agg #[.int .i64 22, .int .i64 a, .int .i64 b, .string s, u4, u5, u6, u7]] w fun e w' => e = .returned (.tuple #[.int .i64 (a + 3), .int .i64 1, .int .i64 0, .int .i64 0]) ∧ Fr (fun _ => False) w w' := by
 obtain ⟨ha1, ha2⟩ := ha
 skip
 have hf := hid ((Fr.refl (fun _ => False) w).alloc (.cells #[.int .i64 22, .int .i64 a, .int .i64 b, .string s, u4, u5, u6, u7] 93))
 go_enter Tryz.func66, Tryz.ntmps66
 go_wp2_with fail
 (try simp only [Exit.inBlock, Exit.then])
 refine bodyPost_ret (results_tmp4 rfl _ _ _) rfl ?_
 exact ⟨rfl, hf.out⟩
set_option maxRecDepth 100000 in
set_option maxHeartbeats 1600000 in
theorem need22n (a b : Int) (s : ByteArray) (u4 u5 u6 u7 : Value) (hs : s.toList.isEmpty = false) (ha : -1099511627776 ≤ a ∧ a ≤ 1099511627776) (w : World) : Calls Tryz.prog 66 #[.agg #[.int .i64 22, .int .i64 a, .int .i64 b, .string s, u4, u5, u6, u7]] w fun e w' => e = .returned (.tuple #[.int .i64 (a + 1), .int .i64 1, .int .i64 0, .int .i64 0]) ∧ Fr (fun _ => False) w w' := by
 obtain ⟨ha1, ha2⟩ := ha
 skip
 have hf := hid ((Fr.refl (fun _ => False) w).alloc (.cells #[.int .i64 22, .int .i64 a, .int .i64 b, .string s, u4, u5, u6, u7] 93))
 go_enter Tryz.func66, Tryz.ntmps66
 go_wp2_with fail
 (try simp only [Exit.inBlock, Exit.then])
 refine bodyPost_ret (results_tmp4 rfl _ _ _) rfl ?_
 exact ⟨rfl, hf.out⟩
set_option maxRecDepth 100000 in
set_option maxHeartbeats 1600000 in
theorem need27 (a b : Int) (s : ByteArray) (u4 u5 u6 u7 : Value) (w : World) : Calls Tryz.prog 66 #[.agg #[.int .i64 27, .int .i64 a, .int .i64 b, .string s, u4, u5, u6, u7]] w (NeedPost 27 a s w) := by
 have hf := hid ((Fr.refl (fun _ => False) w).alloc (.cells #[.int .i64 27, .int .i64 a, .int .i64 b, .string s, u4, u5, u6, u7] 93))
 go_enter Tryz.func66, Tryz.ntmps66
 go_wp2_with fail
 (try simp only [Exit.inBlock, Exit.then])
 refine bodyPost_ret (results_tmp4 rfl _ _ _) rfl ?_
 exact ⟨by simp [ndT, ndG, ndTB, ndGB], hf.out⟩
set_option maxRecDepth 100000 in
set_option maxHeartbeats 1600000 in
theorem need36 (a b : Int) (s : ByteArray) (u4 u5 u6 u7 : Value) (w : World) : Calls Tryz.prog 66 #[.agg #[.int .i64 36, .int .i64 a, .int .i64 b, .string s, u4, u5, u6, u7]] w (NeedPost 36 a s w) := by
 have hf := hid ((Fr.refl (fun _ => False) w).alloc (.cells #[.int .i64 36, .int .i64 a, .int .i64 b, .string s, u4, u5, u6, u7] 93))
 go_enter Tryz.func66, Tryz.ntmps66
 go_wp2_with fail
 (try simp only [Exit.inBlock, Exit.then])
 refine bodyPost_ret (results_tmp4 rfl _ _ _) rfl ?_
 exact ⟨by simp [ndT, ndG, ndTB, ndGB], hf.out⟩
set_option maxRecDepth 100000 in
set_option maxHeartbeats 1600000 in
theorem need37 (a b : Int) (s : ByteArray) (u4 u5 u6 u7 : Value) (w : World) : Calls Tryz.prog 66 #[.agg #[.int .i64 37, .int .i64 a, .int .i64 b, .string s, u4, u5, u6, u7]] w (NeedPost 37 a s w) := by
 have hf := hid ((Fr.refl (fun _ => False) w).alloc (.cells #[.int .i64 37, .int .i64 a, .int .i64 b, .string s, u4, u5, u6, u7] 93))
 go_enter Tryz.func66, Tryz.ntmps66
 go_wp2_with fail
 (try simp only [Exit.inBlock, Exit.then])
 refine bodyPost_ret (results_tmp4 rfl _ _ _) rfl ?_
 exact ⟨by simp [ndT, ndG, ndTB, ndGB], hf.out⟩
set_option maxRecDepth 100000 in
set_option maxHeartbeats 1600000 in
theorem need38 (a b : Int) (s : ByteArray) (u4 u5 u6 u7 : Value) (w : World) : Calls Tryz.prog 66 #[.agg #[.int .i64 38, .int .i64 a, .int .i64 b, .string s, u4, u5, u6, u7]] w (NeedPost 38 a s w) := by
 have hf := hid ((Fr.refl (fun _ => False) w).alloc (.cells #[.int .i64 38, .int .i64 a, .int .i64 b, .string s, u4, u5, u6, u7] 93))
 go_enter Tryz.func66, Tryz.ntmps66
 go_wp2_with fail
 (try simp only [Exit.inBlock, Exit.then])
 refine bodyPost_ret (results_tmp4 rfl _ _ _) rfl ?_
 exact ⟨by simp [ndT, ndG, ndTB, ndGB], hf.out⟩
set_option maxRecDepth 100000 in
set_option maxHeartbeats 1600000 in
theorem need39 (a b : Int) (s : ByteArray) (u4 u5 u6 u7 : Value) (w : World) : Calls Tryz.prog 66 #[.agg #[.int .i64 39, .int .i64 a, .int .i64 b, .string s, u4, u5, u6, u7]] w (NeedPost 39 a s w) := by
 have hf := hid ((Fr.refl (fun _ => False) w).alloc (.cells #[.int .i64 39, .int .i64 a, .int .i64 b, .string s, u4, u5, u6, u7] 93))
 go_enter Tryz.func66, Tryz.ntmps66
 go_wp2_with fail
 (try simp only [Exit.inBlock, Exit.then])
 refine bodyPost_ret (results_tmp4 rfl _ _ _) rfl ?_
 exact ⟨by simp [ndT, ndG, ndTB, ndGB], hf.out⟩
set_option maxRecDepth 100000 in
set_option maxHeartbeats 1600000 in
theorem need41 (a b : Int) (s : ByteArray) (u4 u5 u6 u7 : Value) (w : World) : Calls Tryz.prog 66 #[.agg #[.int .i64 41, .int .i64 a, .int .i64 b, .string s, u4, u5, u6, u7]] w (NeedPost 41 a s w) := by
 have hf := hid ((Fr.refl (fun _ => False) w).alloc (.cells #[.int .i64 41, .int .i64 a, .int .i64 b, .string s, u4, u5, u6, u7] 93))
 go_enter Tryz.func66, Tryz.ntmps66
 go_wp2_with fail
 (try simp only [Exit.inBlock, Exit.then])
 refine bodyPost_ret (results_tmp4 rfl _ _ _) rfl ?_
 exact ⟨by simp [ndT, ndG, ndTB, ndGB], hf.out⟩
set_option maxRecDepth 100000 in
set_option maxHeartbeats 1600000 in
theorem need_no (op a b : Int) (s : ByteArray) (u4 u5 u6 u7 : Value) (h1 : (op == 1) = false) (h2 : (op == 2) = false) (h28 : (op == 28) = false) (h3 : (op == 3) = false) (h7 : (op == 7) = false) (h45 : (op == 45) = false) (h44 : (op == 44) = false) (h4 : (op == 4) = false) (h20 : (op == 20) = false) (h23 : (op == 23) = false) (h19 : (op == 19) = false) (h5 : (op == 5) = false) (h10 : (op == 10) = false) (h12 : (op == 12) = false) (h11 : (op == 11) = false) (h18 : (op == 18) = false) (h21 : (op == 21) = false) (h13 : (op == 13) = false) (h14 : (op == 14) = false) (h15 : (op == 15) = false) (h16 : (op == 16) = false) (h17 : (op == 17) = false) (h22 : (op == 22) = false) (h27 : (op == 27) = false) (h36 : (op == 36) = false) (h37 : (op == 37) = false) (h38 : (op == 38) = false) (h39 : (op == 39) = false) (h41 : (op == 41) = false) (w : World) : Calls Tryz.prog 66 #[.agg #[.int .i64 op, .int .i64 a, .int .i64 b, .string s, u4, u5, u6, u7]] w fun e w' => e = .returned (.tuple #[.int .i64 0, .int .i64 0, .int .i64 0, .int .i64 0]) ∧ Fr (fun _ => False) w w' := by
 have hf := hid ((Fr.refl (fun _ => False) w).alloc (.cells #[.int .i64 op, .int .i64 a, .int .i64 b, .string s, u4, u5, u6, u7] 93))
 go_enter Tryz.func66, Tryz.ntmps66
 go_wp2_with fail
 (try simp only [Exit.inBlock, Exit.then])
 refine bodyPost_ret (results_tmp4 rfl _ _ _) rfl ?_
 exact ⟨rfl, hf.out⟩
theorem need_any (op a b : Int) (s : ByteArray) (u4 u5 u6 u7 : Value) (ha : op = 22 → -1099511627776 ≤ a ∧ a ≤ 1099511627776) (w : World) : Calls Tryz.prog 66 #[.agg #[.int .i64 op, .int .i64 a, .int .i64 b, .string s, u4, u5, u6, u7]] w (NeedPost op a s w) := by
 by_cases h1 : op = 1
 ·subst h1; exact need1 a b s u4 u5 u6 u7 w
 by_cases h2 : op = 2
 ·subst h2; exact need2 a b s u4 u5 u6 u7 w
 by_cases h28 : op = 28
 ·subst h28; exact need28 a b s u4 u5 u6 u7 w
 by_cases h3 : op = 3
 ·subst h3; exact need3 a b s u4 u5 u6 u7 w
 by_cases h7 : op = 7
 ·subst h7; exact need7 a b s u4 u5 u6 u7 w
 by_cases h45 : op = 45
 ·subst h45; exact need45 a b s u4 u5 u6 u7 w
 by_cases h44 : op = 44
 ·subst h44; exact need44 a b s u4 u5 u6 u7 w
 by_cases h4 : op = 4
 ·subst h4; exact need4 a b s u4 u5 u6 u7 w
 by_cases h20 : op = 20
 ·subst h20; exact need20 a b s u4 u5 u6 u7 w
 by_cases h23 : op = 23
 ·subst h23; exact need23 a b s u4 u5 u6 u7 w
 by_cases h19 : op = 19
 ·subst h19; exact need19 a b s u4 u5 u6 u7 w
 by_cases h5 : op = 5
 ·subst h5; exact need5 a b s u4 u5 u6 u7 w
 by_cases h10 : op = 10
 ·subst h10; exact need10 a b s u4 u5 u6 u7 w
 by_cases h12 : op = 12
 ·subst h12; exact need12 a b s u4 u5 u6 u7 w
 by_cases h11 : op = 11
 ·subst h11; exact need11 a b s u4 u5 u6 u7 w
 by_cases h18 : op = 18
 ·subst h18; exact need18 a b s u4 u5 u6 u7 w
 by_cases h21 : op = 21
 ·subst h21; exact need21 a b s u4 u5 u6 u7 w
 by_cases h13 : op = 13
 ·subst h13; exact need13 a b s u4 u5 u6 u7 w
 by_cases h14 : op = 14
 ·subst h14; exact need14 a b s u4 u5 u6 u7 w
 by_cases h15 : op = 15
 ·subst h15; exact need15 a b s u4 u5 u6 u7 w
 by_cases h16 : op = 16
 ·subst h16; exact need16 a b s u4 u5 u6 u7 w
 by_cases h17 : op = 17
 ·subst h17; exact need17 a b s u4 u5 u6 u7 w
 by_cases h22 : op = 22
 ·subst h22
  have hz : s.toList.isEmpty = decide (s = ⟨#[]⟩) := by
   by_cases hs : s = ⟨#[]⟩
   ·subst hs; rw [ByteArray.toList_eq]; rfl
   ·rw [decide_eq_false hs, ByteArray.toList_eq]
    cases s with
    | mk d =>
     cases hd : d.toList with
     | nil => exact absurd (congrArg ByteArray.mk (Array.toList_eq_nil_iff.1 hd)) hs
     | cons c r => simp only [hd, List.isEmpty_cons]
  by_cases hs : s = ⟨#[]⟩
  ·refine (need22e a b s u4 u5 u6 u7 (by rw [hz]; exact decide_eq_true hs) (ha rfl) w).mono fun e w' h => ?_
   unfold NeedPost
   rw [h.1]
   exact ⟨by simp [ndT, ndG, ndTB, ndGB, hs], h.2⟩
  ·refine (need22n a b s u4 u5 u6 u7 (by rw [hz]; exact decide_eq_false hs) (ha rfl) w).mono fun e w' h => ?_
   unfold NeedPost
   rw [h.1]
   exact ⟨by simp [ndT, ndG, ndTB, ndGB, hs], h.2⟩
 by_cases h27 : op = 27
 ·subst h27; exact need27 a b s u4 u5 u6 u7 w
 by_cases h36 : op = 36
 ·subst h36; exact need36 a b s u4 u5 u6 u7 w
 by_cases h37 : op = 37
 ·subst h37; exact need37 a b s u4 u5 u6 u7 w
 by_cases h38 : op = 38
 ·subst h38; exact need38 a b s u4 u5 u6 u7 w
 by_cases h39 : op = 39
 ·subst h39; exact need39 a b s u4 u5 u6 u7 w
 by_cases h41 : op = 41
 ·subst h41; exact need41 a b s u4 u5 u6 u7 w
 refine (need_no op a b s u4 u5 u6 u7 (by simpa using h1) (by simpa using h2) (by simpa using h28) (by simpa using h3) (by simpa using h7) (by simpa using h45) (by simpa using h44) (by simpa using h4) (by simpa using h20) (by simpa using h23) (by simpa using h19) (by simpa using h5) (by simpa using h10) (by simpa using h12) (by simpa using h11) (by simpa using h18) (by simpa using h21) (by simpa using h13) (by simpa using h14) (by simpa using h15) (by simpa using h16) (by simpa using h17) (by simpa using h22) (by simpa using h27) (by simpa using h36) (by simpa using h37) (by simpa using h38) (by simpa using h39) (by simpa using h41) w).mono fun e w' h => ?_
 unfold NeedPost
 rw [h.1]
 refine ⟨?_, h.2⟩
 simp only [ndT, ndG, ndTB, ndGB, *, or_self, if_false]
theorem heap_new2 (w : World) (a b : Obj) : ((w.alloc a).alloc b).heap[w.heap.size + 1]? = some b := by
 have h := heap_alloc_new (w.alloc a) b
 have hs : (w.alloc a).heap.size = w.heap.size + 1 := by simp
 rw [hs] at h
 exact h
def GoesPost (L : List Int) (w : World) (e : Ending) (w' : World) : Prop := ∃ a c, e = .returned (.slice a L.length c) ∧ RolesAt w' (.slice a L.length c) L ∧ Fr (fun _ => False) w w' ∧ ∀ k o, a = some (⟨k, o, none⟩ : Addr) → w.heap.size ≤ k
structure InAt (w : World) (C : Nat) (k : Nat) (op a b : Int) (s : ByteArray) : Prop where
 out : ∃ (nv bv sv : Value) (ct : TypeId) (fz : Nat × Nat) (g n cap : Nat) (u4 u5 u6 u7 : Value), w.cell? ⟨C, 0, none⟩ = some (.slice (some ⟨g, 0, none⟩) n cap) ∧ k < n ∧ n ≤ 1099511627776 ∧
  w.cell? ⟨g, k * 8, none⟩ = some (.int .i64 op) ∧ w.cell? ⟨g, k * 8 + 1, none⟩ = some (.int .i64 a) ∧ w.cell? ⟨g, k * 8 + 2, none⟩ = some (.int .i64 b) ∧ w.cell? ⟨g, k * 8 + 3, none⟩ = some (.string s) ∧
  w.cell? ⟨g, k * 8 + 4, none⟩ = some u4 ∧ w.cell? ⟨g, k * 8 + 5, none⟩ = some u5 ∧ w.cell? ⟨g, k * 8 + 6, none⟩ = some u6 ∧ w.cell? ⟨g, k * 8 + 7, none⟩ = some u7 ∧ u4.oneCell' = true ∧ u5.oneCell' = true ∧ u6.oneCell' = true ∧ u7.oneCell' = true
set_option maxRecDepth 100000 in
set_option maxHeartbeats 1600000 in
theorem goesAt6 (C k : Nat) (a b : Int) (s : ByteArray)  (w : World) (h : InAt w C k 6 a b s) : Calls Tryz.prog 67 #[.pointer (some ⟨C, 0, none⟩), .int .i64 k] w (GoesPost [a] w) := by
 obtain ⟨⟨nv, bv, sv, ct, fz, g, n, cap, u4, u5, u6, u7, hc, hk, hn, h0, h1, h2, h3, h4, h5, h6, h7, o4, o5, o6, o7⟩⟩ := h
 have s4 := fun (W : World) (ad : Addr) (md : Mode) => run_store Tryz.prog W ad u4 md o4
 have s5 := fun (W : World) (ad : Addr) (md : Mode) => run_store Tryz.prog W ad u5 md o5
 have s6 := fun (W : World) (ad : Addr) (md : Mode) => run_store Tryz.prog W ad u6 md o6
 have s7 := fun (W : World) (ad : Addr) (md : Mode) => run_store Tryz.prog W ad u7 md o7
 clear o4 o5 o6 o7
 have hk' : (k : Int) < n := by omega
 have hn' : (n : Int) ≤ 1099511627776 := by omega
 have hf := hid ((Fr.refl (fun _ => False) w).alloc (.cells #[.int .i64 6, .int .i64 a, .int .i64 b, .string s, u4, u5, u6, u7] 93))
 clear hk hn
 go_enter Tryz.func67, Tryz.ntmps67
 go_wp2_with fail
 go_ret
 exact ⟨_, _, rfl, RolesAt.lit (L := [a]) (heap_new2 _ _ _) (by simp), hf.out.alloc _, fun k o e => by simp at e; omega⟩
set_option maxRecDepth 100000 in
set_option maxHeartbeats 1600000 in
theorem goesAt7 (C k : Nat) (a b : Int) (s : ByteArray)  (w : World) (h : InAt w C k 7 a b s) : Calls Tryz.prog 67 #[.pointer (some ⟨C, 0, none⟩), .int .i64 k] w (GoesPost [(k : Int) + 1, a] w) := by
 obtain ⟨⟨nv, bv, sv, ct, fz, g, n, cap, u4, u5, u6, u7, hc, hk, hn, h0, h1, h2, h3, h4, h5, h6, h7, o4, o5, o6, o7⟩⟩ := h
 have s4 := fun (W : World) (ad : Addr) (md : Mode) => run_store Tryz.prog W ad u4 md o4
 have s5 := fun (W : World) (ad : Addr) (md : Mode) => run_store Tryz.prog W ad u5 md o5
 have s6 := fun (W : World) (ad : Addr) (md : Mode) => run_store Tryz.prog W ad u6 md o6
 have s7 := fun (W : World) (ad : Addr) (md : Mode) => run_store Tryz.prog W ad u7 md o7
 clear o4 o5 o6 o7
 have hk' : (k : Int) < n := by omega
 have hn' : (n : Int) ≤ 1099511627776 := by omega
 have hf := hid ((Fr.refl (fun _ => False) w).alloc (.cells #[.int .i64 7, .int .i64 a, .int .i64 b, .string s, u4, u5, u6, u7] 93))
 clear hk hn
 go_enter Tryz.func67, Tryz.ntmps67
 go_wp2_with fail
 go_ret
 exact ⟨_, _, rfl, RolesAt.lit (L := [(k : Int) + 1, a]) (heap_new2 _ _ _) (by simp), hf.out.alloc _, fun k o e => by simp at e; omega⟩
set_option maxRecDepth 100000 in
set_option maxHeartbeats 1600000 in
theorem goesAt37 (C k : Nat) (a b : Int) (s : ByteArray)  (w : World) (h : InAt w C k 37 a b s) : Calls Tryz.prog 67 #[.pointer (some ⟨C, 0, none⟩), .int .i64 k] w (GoesPost [(k : Int) + 1, a] w) := by
 obtain ⟨⟨nv, bv, sv, ct, fz, g, n, cap, u4, u5, u6, u7, hc, hk, hn, h0, h1, h2, h3, h4, h5, h6, h7, o4, o5, o6, o7⟩⟩ := h
 have s4 := fun (W : World) (ad : Addr) (md : Mode) => run_store Tryz.prog W ad u4 md o4
 have s5 := fun (W : World) (ad : Addr) (md : Mode) => run_store Tryz.prog W ad u5 md o5
 have s6 := fun (W : World) (ad : Addr) (md : Mode) => run_store Tryz.prog W ad u6 md o6
 have s7 := fun (W : World) (ad : Addr) (md : Mode) => run_store Tryz.prog W ad u7 md o7
 clear o4 o5 o6 o7
 have hk' : (k : Int) < n := by omega
 have hn' : (n : Int) ≤ 1099511627776 := by omega
 have hf := hid ((Fr.refl (fun _ => False) w).alloc (.cells #[.int .i64 37, .int .i64 a, .int .i64 b, .string s, u4, u5, u6, u7] 93))
 clear hk hn
 go_enter Tryz.func67, Tryz.ntmps67
 go_wp2_with fail
 go_ret
 exact ⟨_, _, rfl, RolesAt.lit (L := [(k : Int) + 1, a]) (heap_new2 _ _ _) (by simp), hf.out.alloc _, fun k o e => by simp at e; omega⟩
set_option maxRecDepth 100000 in
set_option maxHeartbeats 1600000 in
theorem goesAt39 (C k : Nat) (a b : Int) (s : ByteArray)  (w : World) (h : InAt w C k 39 a b s) : Calls Tryz.prog 67 #[.pointer (some ⟨C, 0, none⟩), .int .i64 k] w (GoesPost [(k : Int) + 1, a] w) := by
 obtain ⟨⟨nv, bv, sv, ct, fz, g, n, cap, u4, u5, u6, u7, hc, hk, hn, h0, h1, h2, h3, h4, h5, h6, h7, o4, o5, o6, o7⟩⟩ := h
 have s4 := fun (W : World) (ad : Addr) (md : Mode) => run_store Tryz.prog W ad u4 md o4
 have s5 := fun (W : World) (ad : Addr) (md : Mode) => run_store Tryz.prog W ad u5 md o5
 have s6 := fun (W : World) (ad : Addr) (md : Mode) => run_store Tryz.prog W ad u6 md o6
 have s7 := fun (W : World) (ad : Addr) (md : Mode) => run_store Tryz.prog W ad u7 md o7
 clear o4 o5 o6 o7
 have hk' : (k : Int) < n := by omega
 have hn' : (n : Int) ≤ 1099511627776 := by omega
 have hf := hid ((Fr.refl (fun _ => False) w).alloc (.cells #[.int .i64 39, .int .i64 a, .int .i64 b, .string s, u4, u5, u6, u7] 93))
 clear hk hn
 go_enter Tryz.func67, Tryz.ntmps67
 go_wp2_with fail
 go_ret
 exact ⟨_, _, rfl, RolesAt.lit (L := [(k : Int) + 1, a]) (heap_new2 _ _ _) (by simp), hf.out.alloc _, fun k o e => by simp at e; omega⟩
set_option maxRecDepth 100000 in
set_option maxHeartbeats 1600000 in
theorem goesAt24 (C k : Nat) (a b : Int) (s : ByteArray)  (w : World) (h : InAt w C k 24 a b s) : Calls Tryz.prog 67 #[.pointer (some ⟨C, 0, none⟩), .int .i64 k] w (GoesPost [(k : Int) + 1, a] w) := by
 obtain ⟨⟨nv, bv, sv, ct, fz, g, n, cap, u4, u5, u6, u7, hc, hk, hn, h0, h1, h2, h3, h4, h5, h6, h7, o4, o5, o6, o7⟩⟩ := h
 have s4 := fun (W : World) (ad : Addr) (md : Mode) => run_store Tryz.prog W ad u4 md o4
 have s5 := fun (W : World) (ad : Addr) (md : Mode) => run_store Tryz.prog W ad u5 md o5
 have s6 := fun (W : World) (ad : Addr) (md : Mode) => run_store Tryz.prog W ad u6 md o6
 have s7 := fun (W : World) (ad : Addr) (md : Mode) => run_store Tryz.prog W ad u7 md o7
 clear o4 o5 o6 o7
 have hk' : (k : Int) < n := by omega
 have hn' : (n : Int) ≤ 1099511627776 := by omega
 have hf := hid ((Fr.refl (fun _ => False) w).alloc (.cells #[.int .i64 24, .int .i64 a, .int .i64 b, .string s, u4, u5, u6, u7] 93))
 clear hk hn
 go_enter Tryz.func67, Tryz.ntmps67
 go_wp2_with fail
 go_ret
 exact ⟨_, _, rfl, RolesAt.lit (L := [(k : Int) + 1, a]) (heap_new2 _ _ _) (by simp), hf.out.alloc _, fun k o e => by simp at e; omega⟩
set_option maxRecDepth 100000 in
set_option maxHeartbeats 1600000 in
theorem goesAt25 (C k : Nat) (a b : Int) (s : ByteArray)  (w : World) (h : InAt w C k 25 a b s) : Calls Tryz.prog 67 #[.pointer (some ⟨C, 0, none⟩), .int .i64 k] w (GoesPost [(k : Int) + 1, a] w) := by
 obtain ⟨⟨nv, bv, sv, ct, fz, g, n, cap, u4, u5, u6, u7, hc, hk, hn, h0, h1, h2, h3, h4, h5, h6, h7, o4, o5, o6, o7⟩⟩ := h
 have s4 := fun (W : World) (ad : Addr) (md : Mode) => run_store Tryz.prog W ad u4 md o4
 have s5 := fun (W : World) (ad : Addr) (md : Mode) => run_store Tryz.prog W ad u5 md o5
 have s6 := fun (W : World) (ad : Addr) (md : Mode) => run_store Tryz.prog W ad u6 md o6
 have s7 := fun (W : World) (ad : Addr) (md : Mode) => run_store Tryz.prog W ad u7 md o7
 clear o4 o5 o6 o7
 have hk' : (k : Int) < n := by omega
 have hn' : (n : Int) ≤ 1099511627776 := by omega
 have hf := hid ((Fr.refl (fun _ => False) w).alloc (.cells #[.int .i64 25, .int .i64 a, .int .i64 b, .string s, u4, u5, u6, u7] 93))
 clear hk hn
 go_enter Tryz.func67, Tryz.ntmps67
 go_wp2_with fail
 go_ret
 exact ⟨_, _, rfl, RolesAt.lit (L := [(k : Int) + 1, a]) (heap_new2 _ _ _) (by simp), hf.out.alloc _, fun k o e => by simp at e; omega⟩
set_option maxRecDepth 100000 in
set_option maxHeartbeats 1600000 in
theorem goesAt36 (C k : Nat) (a b : Int) (s : ByteArray)  (w : World) (h : InAt w C k 36 a b s) : Calls Tryz.prog 67 #[.pointer (some ⟨C, 0, none⟩), .int .i64 k] w (GoesPost [(k : Int) + 1, a, b] w) := by
 obtain ⟨⟨nv, bv, sv, ct, fz, g, n, cap, u4, u5, u6, u7, hc, hk, hn, h0, h1, h2, h3, h4, h5, h6, h7, o4, o5, o6, o7⟩⟩ := h
 have s4 := fun (W : World) (ad : Addr) (md : Mode) => run_store Tryz.prog W ad u4 md o4
 have s5 := fun (W : World) (ad : Addr) (md : Mode) => run_store Tryz.prog W ad u5 md o5
 have s6 := fun (W : World) (ad : Addr) (md : Mode) => run_store Tryz.prog W ad u6 md o6
 have s7 := fun (W : World) (ad : Addr) (md : Mode) => run_store Tryz.prog W ad u7 md o7
 clear o4 o5 o6 o7
 have hk' : (k : Int) < n := by omega
 have hn' : (n : Int) ≤ 1099511627776 := by omega
 have hf := hid ((Fr.refl (fun _ => False) w).alloc (.cells #[.int .i64 36, .int .i64 a, .int .i64 b, .string s, u4, u5, u6, u7] 93))
 clear hk hn
 go_enter Tryz.func67, Tryz.ntmps67
 go_wp2_with fail
 go_ret
 exact ⟨_, _, rfl, RolesAt.lit (L := [(k : Int) + 1, a, b]) (heap_new2 _ _ _) (by simp), hf.out.alloc _, fun k o e => by simp at e; omega⟩
set_option maxRecDepth 100000 in
set_option maxHeartbeats 1600000 in
theorem goesAt38 (C k : Nat) (a b : Int) (s : ByteArray)  (w : World) (h : InAt w C k 38 a b s) : Calls Tryz.prog 67 #[.pointer (some ⟨C, 0, none⟩), .int .i64 k] w (GoesPost [(k : Int) + 1, a, b] w) := by
 obtain ⟨⟨nv, bv, sv, ct, fz, g, n, cap, u4, u5, u6, u7, hc, hk, hn, h0, h1, h2, h3, h4, h5, h6, h7, o4, o5, o6, o7⟩⟩ := h
 have s4 := fun (W : World) (ad : Addr) (md : Mode) => run_store Tryz.prog W ad u4 md o4
 have s5 := fun (W : World) (ad : Addr) (md : Mode) => run_store Tryz.prog W ad u5 md o5
 have s6 := fun (W : World) (ad : Addr) (md : Mode) => run_store Tryz.prog W ad u6 md o6
 have s7 := fun (W : World) (ad : Addr) (md : Mode) => run_store Tryz.prog W ad u7 md o7
 clear o4 o5 o6 o7
 have hk' : (k : Int) < n := by omega
 have hn' : (n : Int) ≤ 1099511627776 := by omega
 have hf := hid ((Fr.refl (fun _ => False) w).alloc (.cells #[.int .i64 38, .int .i64 a, .int .i64 b, .string s, u4, u5, u6, u7] 93))
 clear hk hn
 go_enter Tryz.func67, Tryz.ntmps67
 go_wp2_with fail
 go_ret
 exact ⟨_, _, rfl, RolesAt.lit (L := [(k : Int) + 1, a, b]) (heap_new2 _ _ _) (by simp), hf.out.alloc _, fun k o e => by simp at e; omega⟩
set_option maxRecDepth 100000 in
set_option maxHeartbeats 1600000 in
theorem goesAt40 (C k : Nat) (a b : Int) (s : ByteArray)  (w : World) (h : InAt w C k 40 a b s) : Calls Tryz.prog 67 #[.pointer (some ⟨C, 0, none⟩), .int .i64 k] w (GoesPost [(k : Int) + 1, a, b] w) := by
 obtain ⟨⟨nv, bv, sv, ct, fz, g, n, cap, u4, u5, u6, u7, hc, hk, hn, h0, h1, h2, h3, h4, h5, h6, h7, o4, o5, o6, o7⟩⟩ := h
 have s4 := fun (W : World) (ad : Addr) (md : Mode) => run_store Tryz.prog W ad u4 md o4
 have s5 := fun (W : World) (ad : Addr) (md : Mode) => run_store Tryz.prog W ad u5 md o5
 have s6 := fun (W : World) (ad : Addr) (md : Mode) => run_store Tryz.prog W ad u6 md o6
 have s7 := fun (W : World) (ad : Addr) (md : Mode) => run_store Tryz.prog W ad u7 md o7
 clear o4 o5 o6 o7
 have hk' : (k : Int) < n := by omega
 have hn' : (n : Int) ≤ 1099511627776 := by omega
 have hf := hid ((Fr.refl (fun _ => False) w).alloc (.cells #[.int .i64 40, .int .i64 a, .int .i64 b, .string s, u4, u5, u6, u7] 93))
 clear hk hn
 go_enter Tryz.func67, Tryz.ntmps67
 go_wp2_with fail
 go_ret
 exact ⟨_, _, rfl, RolesAt.lit (L := [(k : Int) + 1, a, b]) (heap_new2 _ _ _) (by simp), hf.out.alloc _, fun k o e => by simp at e; omega⟩
set_option maxRecDepth 100000 in
set_option maxHeartbeats 1600000 in
theorem goesAt31 (C k : Nat) (a b : Int) (s : ByteArray)  (w : World) (h : InAt w C k 31 a b s) : Calls Tryz.prog 67 #[.pointer (some ⟨C, 0, none⟩), .int .i64 k] w (GoesPost [] w) := by
 obtain ⟨⟨nv, bv, sv, ct, fz, g, n, cap, u4, u5, u6, u7, hc, hk, hn, h0, h1, h2, h3, h4, h5, h6, h7, o4, o5, o6, o7⟩⟩ := h
 have s4 := fun (W : World) (ad : Addr) (md : Mode) => run_store Tryz.prog W ad u4 md o4
 have s5 := fun (W : World) (ad : Addr) (md : Mode) => run_store Tryz.prog W ad u5 md o5
 have s6 := fun (W : World) (ad : Addr) (md : Mode) => run_store Tryz.prog W ad u6 md o6
 have s7 := fun (W : World) (ad : Addr) (md : Mode) => run_store Tryz.prog W ad u7 md o7
 clear o4 o5 o6 o7
 have hk' : (k : Int) < n := by omega
 have hn' : (n : Int) ≤ 1099511627776 := by omega
 have hf := hid ((Fr.refl (fun _ => False) w).alloc (.cells #[.int .i64 31, .int .i64 a, .int .i64 b, .string s, u4, u5, u6, u7] 93))
 clear hk hn
 go_enter Tryz.func67, Tryz.ntmps67
 go_wp2_with fail
 go_ret
 exact ⟨_, _, rfl, RolesAt.nil _, hf.out, fun k o e => by simp at e⟩
set_option maxRecDepth 100000 in
set_option maxHeartbeats 1600000 in
theorem goesAt42 (C k : Nat) (a b : Int) (s : ByteArray)  (w : World) (h : InAt w C k 42 a b s) : Calls Tryz.prog 67 #[.pointer (some ⟨C, 0, none⟩), .int .i64 k] w (GoesPost [] w) := by
 obtain ⟨⟨nv, bv, sv, ct, fz, g, n, cap, u4, u5, u6, u7, hc, hk, hn, h0, h1, h2, h3, h4, h5, h6, h7, o4, o5, o6, o7⟩⟩ := h
 have s4 := fun (W : World) (ad : Addr) (md : Mode) => run_store Tryz.prog W ad u4 md o4
 have s5 := fun (W : World) (ad : Addr) (md : Mode) => run_store Tryz.prog W ad u5 md o5
 have s6 := fun (W : World) (ad : Addr) (md : Mode) => run_store Tryz.prog W ad u6 md o6
 have s7 := fun (W : World) (ad : Addr) (md : Mode) => run_store Tryz.prog W ad u7 md o7
 clear o4 o5 o6 o7
 have hk' : (k : Int) < n := by omega
 have hn' : (n : Int) ≤ 1099511627776 := by omega
 have hf := hid ((Fr.refl (fun _ => False) w).alloc (.cells #[.int .i64 42, .int .i64 a, .int .i64 b, .string s, u4, u5, u6, u7] 93))
 clear hk hn
 go_enter Tryz.func67, Tryz.ntmps67
 go_wp2_with fail
 go_ret
 exact ⟨_, _, rfl, RolesAt.nil _, hf.out, fun k o e => by simp at e⟩
set_option maxRecDepth 100000 in
set_option maxHeartbeats 1600000 in
theorem goesAt43 (C k : Nat) (a b : Int) (s : ByteArray)  (w : World) (h : InAt w C k 43 a b s) : Calls Tryz.prog 67 #[.pointer (some ⟨C, 0, none⟩), .int .i64 k] w (GoesPost [] w) := by
 obtain ⟨⟨nv, bv, sv, ct, fz, g, n, cap, u4, u5, u6, u7, hc, hk, hn, h0, h1, h2, h3, h4, h5, h6, h7, o4, o5, o6, o7⟩⟩ := h
 have s4 := fun (W : World) (ad : Addr) (md : Mode) => run_store Tryz.prog W ad u4 md o4
 have s5 := fun (W : World) (ad : Addr) (md : Mode) => run_store Tryz.prog W ad u5 md o5
 have s6 := fun (W : World) (ad : Addr) (md : Mode) => run_store Tryz.prog W ad u6 md o6
 have s7 := fun (W : World) (ad : Addr) (md : Mode) => run_store Tryz.prog W ad u7 md o7
 clear o4 o5 o6 o7
 have hk' : (k : Int) < n := by omega
 have hn' : (n : Int) ≤ 1099511627776 := by omega
 have hf := hid ((Fr.refl (fun _ => False) w).alloc (.cells #[.int .i64 43, .int .i64 a, .int .i64 b, .string s, u4, u5, u6, u7] 93))
 clear hk hn
 go_enter Tryz.func67, Tryz.ntmps67
 go_wp2_with fail
 go_ret
 exact ⟨_, _, rfl, RolesAt.nil _, hf.out, fun k o e => by simp at e⟩
set_option maxRecDepth 100000 in
set_option maxHeartbeats 1600000 in
theorem goesAt44 (C k : Nat) (a b : Int) (s : ByteArray)  (w : World) (h : InAt w C k 44 a b s) : Calls Tryz.prog 67 #[.pointer (some ⟨C, 0, none⟩), .int .i64 k] w (GoesPost [] w) := by
 obtain ⟨⟨nv, bv, sv, ct, fz, g, n, cap, u4, u5, u6, u7, hc, hk, hn, h0, h1, h2, h3, h4, h5, h6, h7, o4, o5, o6, o7⟩⟩ := h
 have s4 := fun (W : World) (ad : Addr) (md : Mode) => run_store Tryz.prog W ad u4 md o4
 have s5 := fun (W : World) (ad : Addr) (md : Mode) => run_store Tryz.prog W ad u5 md o5
 have s6 := fun (W : World) (ad : Addr) (md : Mode) => run_store Tryz.prog W ad u6 md o6
 have s7 := fun (W : World) (ad : Addr) (md : Mode) => run_store Tryz.prog W ad u7 md o7
 clear o4 o5 o6 o7
 have hk' : (k : Int) < n := by omega
 have hn' : (n : Int) ≤ 1099511627776 := by omega
 have hf := hid ((Fr.refl (fun _ => False) w).alloc (.cells #[.int .i64 44, .int .i64 a, .int .i64 b, .string s, u4, u5, u6, u7] 93))
 clear hk hn
 go_enter Tryz.func67, Tryz.ntmps67
 go_wp2_with fail
 go_ret
 exact ⟨_, _, rfl, RolesAt.nil _, hf.out, fun k o e => by simp at e⟩
set_option maxRecDepth 100000 in
set_option maxHeartbeats 1600000 in
theorem goesAt_no (C k : Nat) (op a b : Int) (s : ByteArray) (q6 : (op == 6) = false) (q7 : (op == 7) = false) (h37 : (op == 37) = false) (h39 : (op == 39) = false) (h24 : (op == 24) = false) (h25 : (op == 25) = false) (h36 : (op == 36) = false) (h38 : (op == 38) = false) (h40 : (op == 40) = false) (h31 : (op == 31) = false) (h42 : (op == 42) = false) (h43 : (op == 43) = false) (h44 : (op == 44) = false) (w : World) (h : InAt w C k op a b s) : Calls Tryz.prog 67 #[.pointer (some ⟨C, 0, none⟩), .int .i64 k] w (GoesPost [(k : Int) + 1] w) := by
 obtain ⟨⟨nv, bv, sv, ct, fz, g, n, cap, u4, u5, u6, u7, hc, hk, hn, h0, h1, h2, h3, h4, h5, h6, h7, o4, o5, o6, o7⟩⟩ := h
 have s4 := fun (W : World) (ad : Addr) (md : Mode) => run_store Tryz.prog W ad u4 md o4
 have s5 := fun (W : World) (ad : Addr) (md : Mode) => run_store Tryz.prog W ad u5 md o5
 have s6 := fun (W : World) (ad : Addr) (md : Mode) => run_store Tryz.prog W ad u6 md o6
 have s7 := fun (W : World) (ad : Addr) (md : Mode) => run_store Tryz.prog W ad u7 md o7
 clear o4 o5 o6 o7
 have hk' : (k : Int) < n := by omega
 have hn' : (n : Int) ≤ 1099511627776 := by omega
 have hf := hid ((Fr.refl (fun _ => False) w).alloc (.cells #[.int .i64 op, .int .i64 a, .int .i64 b, .string s, u4, u5, u6, u7] 93))
 clear hk hn
 go_enter Tryz.func67, Tryz.ntmps67
 go_wp2_with fail
 go_ret
 exact ⟨_, _, rfl, RolesAt.lit (L := [(k : Int) + 1]) (heap_new2 _ _ _) (by simp), hf.out.alloc _, fun k o e => by simp at e; omega⟩
theorem goes_any (C k : Nat) (j : J) (w : World) (h : InAt w C k j.op j.a j.b j.s) : Calls Tryz.prog 67 #[.pointer (some ⟨C, 0, none⟩), .int .i64 k] w (GoesPost (goesJ j k) w) := by
 obtain ⟨op, a, b, s, ln⟩ := j
 dsimp only at h
 by_cases h6 : op = 6
 ·subst h6; exact goesAt6 C k a b s w h
 by_cases h7 : op = 7
 ·subst h7; exact goesAt7 C k a b s w h
 by_cases h37 : op = 37
 ·subst h37; exact goesAt37 C k a b s w h
 by_cases h39 : op = 39
 ·subst h39; exact goesAt39 C k a b s w h
 by_cases h24 : op = 24
 ·subst h24; exact goesAt24 C k a b s w h
 by_cases h25 : op = 25
 ·subst h25; exact goesAt25 C k a b s w h
 by_cases h36 : op = 36
 ·subst h36; exact goesAt36 C k a b s w h
 by_cases h38 : op = 38
 ·subst h38; exact goesAt38 C k a b s w h
 by_cases h40 : op = 40
 ·subst h40; exact goesAt40 C k a b s w h
 by_cases h31 : op = 31
 ·subst h31; exact goesAt31 C k a b s w h
 by_cases h42 : op = 42
 ·subst h42; exact goesAt42 C k a b s w h
 by_cases h43 : op = 43
 ·subst h43; exact goesAt43 C k a b s w h
 by_cases h44 : op = 44
 ·subst h44; exact goesAt44 C k a b s w h
 have e : goesJ ⟨op, a, b, s, ln⟩ k = [(k : Int) + 1] := by simp only [goesJ, *, or_self, if_false]
 rw [e]
 exact goesAt_no C k op a b s (by simpa using h6) (by simpa using h7) (by simpa using h37) (by simpa using h39) (by simpa using h24) (by simpa using h25) (by simpa using h36) (by simpa using h38) (by simpa using h40) (by simpa using h31) (by simpa using h42) (by simpa using h43) (by simpa using h44) w h
end
section
open Go.RowKit
theorem Tryz.info_pl : (Tryz.prog.info? 111).map (fun i => (i.zero, i.size, i.bytes)) = some (some (.agg #[.bool false, .int .i64 0, .int .i64 0]), 3, 24) := by kernel_rfl
def tdV (l : List Nat) : List Value := l.map fun (k : Nat) => .int .i64 (k : Int)
def CkAt (base : Nat) (P : Nat → Prop) (w : World) (LB TB n : Nat) (T : Nat → Int × Int) (c : CK) : Prop :=
 ∃ lv tv, w.heap[LB]? = some (.cells #[lv] 109 (0, 0)) ∧ w.ownsRow base 111 3 lv n (plV T 0 c.ks) ∧ w.heap[TB]? = some (.cells #[tv] 64 (0, 0)) ∧ w.ownsRow base 3 1 tv c.td.length (tdV c.td) ∧ ∀ k, P k → k < w.heap.size ∧ k ≠ TB ∧ lv.ownBlock ≠ some k ∧ tv.ownBlock ≠ some k
theorem msetS {w : World} {base e s g cap n : Nat} {xs : List Value} (h : w.ownsRow base e s (.slice (some ⟨g, 0, none⟩) n cap) n xs) (j : Nat) (u : Value) (hj : j < n * s) : (w.setCell ⟨g, j, none⟩ u).ownsRow base e s (.slice (some ⟨g, 0, none⟩) n cap) n (xs.set j u) := by
 refine ⟨by simpa using h.1, .inr ?_⟩
 rcases h.2 with ⟨e, _⟩ | ⟨g', cap', cur, e, hb, hg, h1, h2, h3, h4⟩
 ·cases e
 ·simp only [Value.slice.injEq, Option.some.injEq, Addr.mk.injEq] at e
  obtain ⟨⟨rfl, _⟩, _, rfl⟩ := e
  refine ⟨g, cap, cur.setIfInBounds j u, rfl, hb, setCell_row j u hg, h1, h2, by simpa using h3, ?_⟩
  rw [← h4, Array.toList_setIfInBounds, List.take_set]
theorem mcellsS {w : World} {base e s g n cap : Nat} {xs : List Value} (h : w.ownsRow base e s (.slice (some ⟨g, 0, none⟩) n cap) n xs) : base ≤ g ∧ (∀ i, w.frozen? ⟨g, i, none⟩ = false) ∧ (∀ i, i < n * s → w.cell? ⟨g, i, none⟩ = xs[i]?) ∧ n ≤ cap ∧ ∃ cs fz, w.heap[g]? = some (.cells cs e fz) := by
 rcases h.2 with ⟨e, _⟩ | ⟨g', cap', cur, e, hb, hg, h1, h2, h3, h4⟩
 ·cases e
 ·simp only [Value.slice.injEq, Option.some.injEq, Addr.mk.injEq] at e
  obtain ⟨⟨rfl, _⟩, _, rfl⟩ := e
  refine ⟨hb, fun i => frozen_of_row _ _ i _ _ hg, fun i hi => ?_, h1, _, _, hg⟩
  rw [cell_of_row _ _ i _ _ _ hg, ← h4, List.getElem?_take, if_pos hi]
  simp
theorem own_some {w : World} {base e s n : Nat} {v : Value} {xs : List Value} (h : w.ownsRow base e s v n xs) (hn : 0 < n) : ∃ g cap, v = .slice (some ⟨g, 0, none⟩) n cap := by
 rcases h.2 with ⟨_, h0⟩ | ⟨g, cap, cur, rfl, _⟩
 ·omega
 ·exact ⟨g, cap, rfl⟩
set_option maxRecDepth 100000 in
set_option maxHeartbeats 3200000 in
theorem visit_any {base LB TB n : Nat} {P : Nat → Prop} {T : Nat → Int × Int} {c : CK} (w : World) (hck : CkAt base P w LB TB n T c) (hok : c.Ok n) (hbw : base ≤ w.heap.size) (hbl : base ≤ LB ∧ base ≤ TB) (hn : n ≤ 1099511627776) (m : Nat) (hm : m < n) {s b : Int} (hT : T m = (s, b)) :
  Calls Tryz.prog 65 #[.int .i64 m, .int .i64 s, .int .i64 b, .pointer (some ⟨LB, 0, none⟩), .pointer (some ⟨TB, 0, none⟩)] w fun e w' => e = .returned (.bool true) ∧ CkAt base P w' LB TB n T (c.visit m) ∧ Fr (fun k => base ≤ k ∧ ¬ P k) w w' := by
 obtain ⟨lv, tv, hLB, ho1, hTB, ho2, hP⟩ := id hck
 obtain ⟨g, cap, rfl⟩ := own_some ho1 (by omega)
 obtain ⟨hbg, hfz, hcl, hnc, -⟩ := mcellsS ho1
 have hml : m < c.ks.length := by rw [hok.1]; exact hm
 obtain ⟨kb, hkb⟩ : ∃ kb, c.ks[m]? = some kb := ⟨_, List.getElem?_eq_getElem hml⟩
 obtain ⟨p0, p1, p2⟩ := plV_at T c.ks 0 m kb hkb
 rw [Nat.zero_add, hT] at p1 p2
 have hmI : (m : Int) < n := by omega
 have hnI : (n : Int) ≤ 1099511627776 := by omega
 have c0 : w.cell? ⟨LB, 0, none⟩ = some (.slice (some ⟨g, 0, none⟩) n cap) := by rw [cell_of_row _ _ _ _ _ _ hLB]; rfl
 have q0 : w.cell? ⟨g, m * 3, none⟩ = some (.bool kb) := by rw [hcl _ (by omega)]; exact p0
 have q1 : w.cell? ⟨g, m * 3 + 1, none⟩ = some (.int .i64 (if kb then s else 0)) := by rw [hcl _ (by omega)]; exact p1
 have q2 : w.cell? ⟨g, m * 3 + 2, none⟩ = some (.int .i64 (if kb then b else 0)) := by rw [hcl _ (by omega)]; exact p2
 cases kb with
 | true =>
  have HV := hid (show c.visit m = c from if_pos hkb)
  have HCK := hid hck
  simp only [if_true] at q1 q2
  clear hck hok hbw hbl hn hm hT hLB ho1 hTB ho2 hP hbg hfz hcl hnc hml hkb p0 p1 p2
  go_enter Tryz.func65, Tryz.ntmps65
  go_wp2_with fail
  go_ret
  refine ⟨by simp, ?_, Fr.refl _ _⟩
  rw [HV.out]
  exact HCK.out
 | false =>
  have HV := hid (show c.visit m = ⟨c.ks.set m true, c.td ++ [m]⟩ from if_neg (by rw [hkb]; simp))
  have hs3 := msetS (msetS (msetS ho1 (m * 3) (.bool true) (by omega)) (m * 3 + 1) (.int .i64 s) (by omega)) (m * 3 + 2) (.int .i64 b) (by omega)
  rw [plV_set T c.ks 0 m s b hml (by rw [Nat.zero_add]; exact hT)] at hs3
  have hF : Fr (fun k => k = g) w (((w.setCell ⟨g, m * 3, none⟩ (.bool true)).setCell ⟨g, m * 3 + 1, none⟩ (.int .i64 s)).setCell ⟨g, m * 3 + 2, none⟩ (.int .i64 b)) :=
   Fr.setCell (S := fun k => k = g) (p := ⟨g, m * 3 + 2, none⟩) (Fr.setCell (S := fun k => k = g) (p := ⟨g, m * 3 + 1, none⟩) (Fr.setCell (S := fun k => k = g) (p := ⟨g, m * 3, none⟩) (Fr.refl _ _) (.inl rfl) _) (.inl rfl) _) (.inl rfl) _
  have hLg : ¬ LB = g := fun e => own_ne_cells ho1 hLB (by decide) g rfl e.symm
  have hTg : ¬ TB = g := fun e => own_ne_cells ho1 hTB (by decide) g rfl e.symm
  have ho2g := hF.own ho2 (fun k hk e => own_ne ho2 ho1 (by decide) k hk (by rw [e]; rfl))
  have hLB1 := hF.heap hLB hLg
  have hTB1 := hF.heap hTB hTg
  have hsz := hF.size
  have t0 : (((w.setCell ⟨g, m * 3, none⟩ (.bool true)).setCell ⟨g, m * 3 + 1, none⟩ (.int .i64 s)).setCell ⟨g, m * 3 + 2, none⟩ (.int .i64 b)).cell? ⟨TB, 0, none⟩ = some tv := by rw [cell_of_row _ _ _ _ _ _ hTB1]; rfl
  have tf : (((w.setCell ⟨g, m * 3, none⟩ (.bool true)).setCell ⟨g, m * 3 + 1, none⟩ (.int .i64 s)).setCell ⟨g, m * 3 + 2, none⟩ (.int .i64 b)).frozen? ⟨TB, 0, none⟩ = false := frozen_of_row _ _ _ _ _ hTB1
  simp only [if_false, Bool.false_eq_true] at q1 q2
  have hfg := hfz (m * 3)
  have hfg1 := hfz (m * 3 + 1)
  have hfg2 := hfz (m * 3 + 2)
  have HS3 := hid hs3; have HF := hid hF; have HO2 := hid ho2g; have HL1 := hid hLB1; have HT1 := hid hTB1; have HT0 := hid t0; have HTF := hid tf
  have HB := hid (And.intro (Nat.le_trans hbw hsz) (And.intro hbl (And.intro hbg hok)))
  have HPP := hid hP
  have HNN := hid (show c.td.length + 1 ≤ 1099511627776 by have := unk_set c.ks m hkb; have := hok.2.2; omega)
  have hlT : TB < w.heap.size := heap_lt hTB
  have HLT := hid hlT
  clear hck hok hbw hbl hn hm hT hLB ho1 hTB ho2 hP hbg hfz hcl hnc hml hkb p0 p1 p2 hs3 hF ho2g hLB1 hTB1 hsz t0 tf hLg hTg hlT
  go_enter Tryz.func65, Tryz.ntmps65
  go_upto_region 6 with fail
  generalize ((w.setCell ⟨g, m * 3, none⟩ (.bool true)).setCell ⟨g, m * 3 + 1, none⟩ (.int .i64 s)).setCell ⟨g, m * 3 + 2, none⟩ (.int .i64 b) = w1 at *
  clear q0 q1 q2 hfg hfg1 hfg2
  have t0 := HT0.out
  obtain ⟨ta, tc, rfl, -⟩ := own_len HO2.out
  have hfa := (Fr.refl (fun _ => False) w1).alloc (.cells #[.int .i64 (m : Int)] 3)
  have hcell := cell_new1 w1 (.int .i64 (m : Int)) 3 (0, 0)
  have HOW := hid (World.ownsRow.alloc HO2.out (.cells #[.int .i64 (m : Int)] 3))
  have HFA := hid hfa; have HCE := hid hcell
  have HK := HNN
  have HLTB := hid (show TB < w1.heap.size from heap_lt HT1.out)
  have hTt : ¬ some TB = (Value.slice ta c.td.length tc).ownBlock := fun e => own_ne_cells HO2.out HT1.out (by decide) TB e.symm rfl
  have hLt : ¬ some LB = (Value.slice ta c.td.length tc).ownBlock := fun e => own_ne_cells HO2.out HL1.out (by decide) LB e.symm rfl
  have hgt : ∀ k, (Value.slice (some ⟨g, 0, none⟩) n cap).ownBlock = some k → ¬ some k = (Value.slice ta c.td.length tc).ownBlock := fun k hk e => own_ne HO2.out HS3.out (by decide) k e.symm hk.symm
  have HNE := hid (And.intro hTt (And.intro hLt hgt))
  clear hfa hcell hTt hLt hgt
  go_wp2_with (at_builtin; go_must (refine wpList_append1 rfl (.tmp 44) (.tmp 46) 64 rfl 3 (.int .i64 0) 8 Tryz.underlying64 Tryz.info_i rfl _ rfl base c.td.length (tdV c.td) HOW.out w1.heap.size 1 (.int .i64 (m : Int)) rfl HCE.out rfl HK.out (by decide) (by have := HB.out.1; simp; omega) ?_))
  intro g2 cap2 w3 ho3 hf3 hg2
  have hf3w : Fr (fun k => some k = (Value.slice ta c.td.length tc).ownBlock) w1 w3 := (HFA.out.mono fun _ _ h => h.elim).trans' hf3
  have hT3 := hf3w.heap HT1.out HNE.out.1
  have hL3 := hf3w.heap HL1.out HNE.out.2.1
  have hS3 := hf3w.own HS3.out HNE.out.2.2
  have t3 : w3.cell? ⟨TB, 0, none⟩ = some (.slice ta c.td.length tc) := by rw [cell_of_row _ _ _ _ _ _ hT3]; rfl
  have tf3 : w3.frozen? ⟨TB, 0, none⟩ = false := frozen_of_row _ _ _ _ _ hT3
  have hfs : Fr (fun k => k = TB) w3 (w3.setCell ⟨TB, 0, none⟩ (.slice (some ⟨g2, 0, none⟩) (c.td.length + 1) cap2)) := Fr.setCell (S := fun k => k = TB) (Fr.refl _ _) (p := ⟨TB, 0, none⟩) (.inl rfl) _
  have hT4 := setCell_row 0 (.slice (some ⟨g2, 0, none⟩) (c.td.length + 1) cap2) hT3
  have hLT : ¬ LB = TB := fun e => by
   have h1 := HL1.out
   rw [e, HT1.out] at h1
   simp only [Option.some.injEq, Obj.cells.injEq] at h1
   exact absurd h1.2.1 (by decide)
  have hL4 := hfs.heap hL3 hLT
  have hS4 := hfs.own hS3 (own_ne_cells hS3 hT3 (by decide))
  have ho4 := hfs.own ho3 (own_ne_cells ho3 hT3 (by decide))
  have HF4 := hid (show Fr (fun k => base ≤ k ∧ ¬ P k) w (w3.setCell ⟨TB, 0, none⟩ (.slice (some ⟨g2, 0, none⟩) (c.td.length + 1) cap2)) from by
   have hb := HB.out
   have hlt := HO2.out.lt
   have hp := HPP.out
   exact ((HF.out.mono fun k _ e => by rw [e]; exact ⟨hb.2.2.1, fun h => (hp _ h).2.2.1 rfl⟩).trans' (hf3w.mono fun k _ e => ⟨(hlt k e.symm).1, fun h => (hp _ h).2.2.2 e.symm⟩)).trans' (hfs.mono fun k _ e => by rw [e]; exact ⟨hb.2.1.2, fun h => (hp _ h).2.1 rfl⟩))
  have HC4 := hid (show CkAt base P (w3.setCell ⟨TB, 0, none⟩ (.slice (some ⟨g2, 0, none⟩) (c.td.length + 1) cap2)) LB TB n T ⟨c.ks.set m true, c.td ++ [m]⟩ from by
   refine ⟨_, _, hL4, hS4, by simpa using hT4, ?_, fun k hk => ?_⟩
   rotate_left
   ·have hp := HPP.out k hk
    have h1 := HF.out.size
    have h2 := hf3w.size
    have h3 := hfs.size
    refine ⟨by omega, hp.2.1, hp.2.2.1, fun e => ?_⟩
    simp only [Value.ownBlock, Option.some.injEq] at e
    rcases hg2 with h | h
    ·rw [e] at h
     exact hp.2.2.2 h
    ·try simp at h
     omega
   have e1 : tdV (c.td ++ [m]) = tdV c.td ++ [.int .i64 (m : Int)] := by simp [tdV]
   have e2 : (c.td ++ [m]).length = c.td.length + 1 := by simp
   dsimp only
   rw [e1, e2]
   exact ho4)
  clear ho3 hf3 hg2 hf3w hT3 hL3 hS3 hfs hT4 hLT hL4 hS4 ho4 t0 HOW HFA HCE
  go_wp2_with fail
  go_ret
  refine ⟨rfl, ?_, HF4.out⟩
  rw [HV.out]
  exact HC4.out
end
end Go.Proofs.YtbegahbagnflnaaGreatDoor
