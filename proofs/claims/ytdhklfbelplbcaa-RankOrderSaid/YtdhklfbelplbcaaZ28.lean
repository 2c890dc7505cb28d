/-
  The orders of drawn regions of whole.
-/
import Derived.Test.YtdhklfbelplbcaaZ10
namespace Go.Proofs.Ytdhklfbelplbcaa
set_option maxRecDepth 100000
noncomputable def opsW28 : Array Oper := regIn 28 Try.f43
theorem nsW28 : Region.noSelect opsW28 = true := by kernel_rfl
theorem liW28 : Array.replicate opsW28.size false = (bitsB 9 0) := by kernel_rfl
theorem rdW28_0 : Region.ready .any opsW28 (bitsB 9 0) = [0, 1, 3] := by kernel_rfl
theorem frW28_0 : Region.free .any opsW28 (bitsB 9 0) 0 = true := by kernel_rfl
theorem stW28_0 : (bitsB 9 0).setIfInBounds 0 true = (bitsB 9 1) := by kernel_rfl
theorem rdW28_1 : Region.ready .any opsW28 (bitsB 9 1) = [1, 3] := by kernel_rfl
theorem frW28_1 : Region.free .any opsW28 (bitsB 9 1) 1 = true := by kernel_rfl
theorem stW28_1 : (bitsB 9 1).setIfInBounds 1 true = (bitsB 9 3) := by kernel_rfl
theorem rdW28_2 : Region.ready .any opsW28 (bitsB 9 3) = [2, 3] := by kernel_rfl
theorem frW28_2 : Region.free .any opsW28 (bitsB 9 3) 2 = true := by kernel_rfl
theorem stW28_2 : (bitsB 9 3).setIfInBounds 2 true = (bitsB 9 7) := by kernel_rfl
theorem rdW28_3 : Region.ready .any opsW28 (bitsB 9 7) = [3] := by kernel_rfl
theorem stW28_3 : (bitsB 9 7).setIfInBounds 3 true = (bitsB 9 15) := by kernel_rfl
theorem rdW28_4 : Region.ready .any opsW28 (bitsB 9 15) = [4] := by kernel_rfl
theorem stW28_4 : (bitsB 9 15).setIfInBounds 4 true = (bitsB 9 31) := by kernel_rfl
theorem rdW28_5 : Region.ready .any opsW28 (bitsB 9 31) = [5] := by kernel_rfl
theorem stW28_5 : (bitsB 9 31).setIfInBounds 5 true = (bitsB 9 63) := by kernel_rfl
theorem rdW28_6 : Region.ready .any opsW28 (bitsB 9 63) = [6] := by kernel_rfl
theorem stW28_6 : (bitsB 9 63).setIfInBounds 6 true = (bitsB 9 127) := by kernel_rfl
theorem rdW28_7 : Region.ready .any opsW28 (bitsB 9 127) = [7] := by kernel_rfl
theorem stW28_7 : (bitsB 9 127).setIfInBounds 7 true = (bitsB 9 255) := by kernel_rfl
theorem rdW28_8 : Region.ready .any opsW28 (bitsB 9 255) = [8] := by kernel_rfl
theorem stW28_8 : (bitsB 9 255).setIfInBounds 8 true = (bitsB 9 511) := by kernel_rfl
theorem rdW28_9 : Region.ready .any opsW28 (bitsB 9 511) = [] := by kernel_rfl
noncomputable def opsW32 : Array Oper := regIn 32 Try.f43
theorem nsW32 : Region.noSelect opsW32 = true := by kernel_rfl
theorem liW32 : Array.replicate opsW32.size false = (bitsB 7 0) := by kernel_rfl
theorem rdW32_0 : Region.ready .any opsW32 (bitsB 7 0) = [0, 1, 2] := by kernel_rfl
theorem frW32_0 : Region.free .any opsW32 (bitsB 7 0) 0 = true := by kernel_rfl
theorem stW32_0 : (bitsB 7 0).setIfInBounds 0 true = (bitsB 7 1) := by kernel_rfl
theorem rdW32_1 : Region.ready .any opsW32 (bitsB 7 1) = [1, 2] := by kernel_rfl
theorem frW32_1 : Region.free .any opsW32 (bitsB 7 1) 1 = true := by kernel_rfl
theorem stW32_1 : (bitsB 7 1).setIfInBounds 1 true = (bitsB 7 3) := by kernel_rfl
theorem rdW32_2 : Region.ready .any opsW32 (bitsB 7 3) = [2] := by kernel_rfl
theorem stW32_2 : (bitsB 7 3).setIfInBounds 2 true = (bitsB 7 7) := by kernel_rfl
theorem rdW32_3 : Region.ready .any opsW32 (bitsB 7 7) = [3] := by kernel_rfl
theorem stW32_3 : (bitsB 7 7).setIfInBounds 3 true = (bitsB 7 15) := by kernel_rfl
theorem rdW32_4 : Region.ready .any opsW32 (bitsB 7 15) = [4] := by kernel_rfl
theorem stW32_4 : (bitsB 7 15).setIfInBounds 4 true = (bitsB 7 31) := by kernel_rfl
theorem rdW32_5 : Region.ready .any opsW32 (bitsB 7 31) = [5] := by kernel_rfl
theorem stW32_5 : (bitsB 7 31).setIfInBounds 5 true = (bitsB 7 63) := by kernel_rfl
theorem rdW32_6 : Region.ready .any opsW32 (bitsB 7 63) = [6] := by kernel_rfl
theorem stW32_6 : (bitsB 7 63).setIfInBounds 6 true = (bitsB 7 127) := by kernel_rfl
theorem rdW32_7 : Region.ready .any opsW32 (bitsB 7 127) = [] := by kernel_rfl
noncomputable def opsW39 : Array Oper := regIn 39 Try.f43
theorem nsW39 : Region.noSelect opsW39 = true := by kernel_rfl
theorem liW39 : Array.replicate opsW39.size false = (bitsB 27 0) := by kernel_rfl
theorem rdW39_0 : Region.ready .any opsW39 (bitsB 27 0) = [0, 1, 2, 5, 6, 9, 14, 15, 18, 22] := by kernel_rfl
theorem frW39_0 : Region.free .any opsW39 (bitsB 27 0) 0 = true := by kernel_rfl
theorem stW39_0 : (bitsB 27 0).setIfInBounds 0 true = (bitsB 27 1) := by kernel_rfl
theorem rdW39_1 : Region.ready .any opsW39 (bitsB 27 1) = [1, 2, 5, 6, 9, 14, 15, 18, 22] := by kernel_rfl
theorem frW39_1 : Region.free .any opsW39 (bitsB 27 1) 1 = true := by kernel_rfl
theorem stW39_1 : (bitsB 27 1).setIfInBounds 1 true = (bitsB 27 3) := by kernel_rfl
theorem rdW39_2 : Region.ready .any opsW39 (bitsB 27 3) = [2, 5, 6, 9, 14, 15, 18, 22] := by kernel_rfl
theorem frW39_2 : Region.free .any opsW39 (bitsB 27 3) 2 = true := by kernel_rfl
theorem stW39_2 : (bitsB 27 3).setIfInBounds 2 true = (bitsB 27 7) := by kernel_rfl
theorem rdW39_3 : Region.ready .any opsW39 (bitsB 27 7) = [3, 5, 6, 9, 14, 15, 18, 22] := by kernel_rfl
theorem frW39_3 : Region.free .any opsW39 (bitsB 27 7) 3 = true := by kernel_rfl
theorem stW39_3 : (bitsB 27 7).setIfInBounds 3 true = (bitsB 27 15) := by kernel_rfl
theorem rdW39_4 : Region.ready .any opsW39 (bitsB 27 15) = [4, 5, 6, 9, 14, 15, 18, 22] := by kernel_rfl
theorem frW39_4 : Region.free .any opsW39 (bitsB 27 15) 4 = true := by kernel_rfl
theorem stW39_4 : (bitsB 27 15).setIfInBounds 4 true = (bitsB 27 31) := by kernel_rfl
theorem rdW39_5 : Region.ready .any opsW39 (bitsB 27 31) = [5, 6, 9, 14, 15, 18, 22] := by kernel_rfl
theorem frW39_5 : Region.free .any opsW39 (bitsB 27 31) 5 = true := by kernel_rfl
theorem stW39_5 : (bitsB 27 31).setIfInBounds 5 true = (bitsB 27 63) := by kernel_rfl
theorem rdW39_6 : Region.ready .any opsW39 (bitsB 27 63) = [6, 9, 14, 15, 18, 22] := by kernel_rfl
theorem frW39_6 : Region.free .any opsW39 (bitsB 27 63) 6 = true := by kernel_rfl
theorem stW39_6 : (bitsB 27 63).setIfInBounds 6 true = (bitsB 27 127) := by kernel_rfl
theorem rdW39_7 : Region.ready .any opsW39 (bitsB 27 127) = [7, 9, 14, 15, 18, 22] := by kernel_rfl
theorem frW39_7 : Region.free .any opsW39 (bitsB 27 127) 7 = true := by kernel_rfl
theorem stW39_7 : (bitsB 27 127).setIfInBounds 7 true = (bitsB 27 255) := by kernel_rfl
theorem rdW39_8 : Region.ready .any opsW39 (bitsB 27 255) = [8, 9, 14, 15, 18, 22] := by kernel_rfl
theorem frW39_8 : Region.free .any opsW39 (bitsB 27 255) 8 = true := by kernel_rfl
theorem stW39_8 : (bitsB 27 255).setIfInBounds 8 true = (bitsB 27 511) := by kernel_rfl
theorem rdW39_9 : Region.ready .any opsW39 (bitsB 27 511) = [9, 14, 15, 18, 22] := by kernel_rfl
theorem frW39_9 : Region.free .any opsW39 (bitsB 27 511) 9 = true := by kernel_rfl
theorem stW39_9 : (bitsB 27 511).setIfInBounds 9 true = (bitsB 27 1023) := by kernel_rfl
theorem rdW39_10 : Region.ready .any opsW39 (bitsB 27 1023) = [10, 14, 15, 18, 22] := by kernel_rfl
theorem frW39_10 : Region.free .any opsW39 (bitsB 27 1023) 10 = true := by kernel_rfl
theorem stW39_10 : (bitsB 27 1023).setIfInBounds 10 true = (bitsB 27 2047) := by kernel_rfl
theorem rdW39_11 : Region.ready .any opsW39 (bitsB 27 2047) = [11, 14, 15, 18, 22] := by kernel_rfl
theorem frW39_11 : Region.free .any opsW39 (bitsB 27 2047) 11 = true := by kernel_rfl
theorem stW39_11 : (bitsB 27 2047).setIfInBounds 11 true = (bitsB 27 4095) := by kernel_rfl
theorem rdW39_12 : Region.ready .any opsW39 (bitsB 27 4095) = [12, 14, 15, 18, 22] := by kernel_rfl
theorem frW39_12 : Region.free .any opsW39 (bitsB 27 4095) 12 = true := by kernel_rfl
theorem stW39_12 : (bitsB 27 4095).setIfInBounds 12 true = (bitsB 27 8191) := by kernel_rfl
theorem rdW39_13 : Region.ready .any opsW39 (bitsB 27 8191) = [13, 14, 15, 18, 22] := by kernel_rfl
theorem frW39_13 : Region.free .any opsW39 (bitsB 27 8191) 13 = true := by kernel_rfl
theorem stW39_13 : (bitsB 27 8191).setIfInBounds 13 true = (bitsB 27 16383) := by kernel_rfl
theorem rdW39_14 : Region.ready .any opsW39 (bitsB 27 16383) = [14, 15, 18, 22] := by kernel_rfl
theorem frW39_14 : Region.free .any opsW39 (bitsB 27 16383) 14 = true := by kernel_rfl
theorem stW39_14 : (bitsB 27 16383).setIfInBounds 14 true = (bitsB 27 32767) := by kernel_rfl
theorem rdW39_15 : Region.ready .any opsW39 (bitsB 27 32767) = [15, 18, 22] := by kernel_rfl
theorem frW39_15 : Region.free .any opsW39 (bitsB 27 32767) 15 = true := by kernel_rfl
theorem stW39_15 : (bitsB 27 32767).setIfInBounds 15 true = (bitsB 27 65535) := by kernel_rfl
theorem rdW39_16 : Region.ready .any opsW39 (bitsB 27 65535) = [16, 18, 22] := by kernel_rfl
theorem frW39_16 : Region.free .any opsW39 (bitsB 27 65535) 16 = true := by kernel_rfl
theorem stW39_16 : (bitsB 27 65535).setIfInBounds 16 true = (bitsB 27 131071) := by kernel_rfl
theorem rdW39_17 : Region.ready .any opsW39 (bitsB 27 131071) = [17, 18, 22] := by kernel_rfl
theorem frW39_17 : Region.free .any opsW39 (bitsB 27 131071) 17 = true := by kernel_rfl
theorem stW39_17 : (bitsB 27 131071).setIfInBounds 17 true = (bitsB 27 262143) := by kernel_rfl
theorem rdW39_18 : Region.ready .any opsW39 (bitsB 27 262143) = [18, 22] := by kernel_rfl
theorem frW39_18 : Region.free .any opsW39 (bitsB 27 262143) 18 = true := by kernel_rfl
theorem stW39_18 : (bitsB 27 262143).setIfInBounds 18 true = (bitsB 27 524287) := by kernel_rfl
theorem rdW39_19 : Region.ready .any opsW39 (bitsB 27 524287) = [19, 22] := by kernel_rfl
theorem frW39_19 : Region.free .any opsW39 (bitsB 27 524287) 19 = true := by kernel_rfl
theorem stW39_19 : (bitsB 27 524287).setIfInBounds 19 true = (bitsB 27 1048575) := by kernel_rfl
theorem rdW39_20 : Region.ready .any opsW39 (bitsB 27 1048575) = [20, 22] := by kernel_rfl
theorem frW39_20 : Region.free .any opsW39 (bitsB 27 1048575) 20 = true := by kernel_rfl
theorem stW39_20 : (bitsB 27 1048575).setIfInBounds 20 true = (bitsB 27 2097151) := by kernel_rfl
theorem rdW39_21 : Region.ready .any opsW39 (bitsB 27 2097151) = [21, 22] := by kernel_rfl
theorem frW39_21 : Region.free .any opsW39 (bitsB 27 2097151) 21 = true := by kernel_rfl
theorem stW39_21 : (bitsB 27 2097151).setIfInBounds 21 true = (bitsB 27 4194303) := by kernel_rfl
theorem rdW39_22 : Region.ready .any opsW39 (bitsB 27 4194303) = [22] := by kernel_rfl
theorem stW39_22 : (bitsB 27 4194303).setIfInBounds 22 true = (bitsB 27 8388607) := by kernel_rfl
theorem rdW39_23 : Region.ready .any opsW39 (bitsB 27 8388607) = [23] := by kernel_rfl
theorem stW39_23 : (bitsB 27 8388607).setIfInBounds 23 true = (bitsB 27 16777215) := by kernel_rfl
theorem rdW39_24 : Region.ready .any opsW39 (bitsB 27 16777215) = [24] := by kernel_rfl
theorem stW39_24 : (bitsB 27 16777215).setIfInBounds 24 true = (bitsB 27 33554431) := by kernel_rfl
theorem rdW39_25 : Region.ready .any opsW39 (bitsB 27 33554431) = [25] := by kernel_rfl
theorem stW39_25 : (bitsB 27 33554431).setIfInBounds 25 true = (bitsB 27 67108863) := by kernel_rfl
theorem rdW39_26 : Region.ready .any opsW39 (bitsB 27 67108863) = [26] := by kernel_rfl
theorem stW39_26 : (bitsB 27 67108863).setIfInBounds 26 true = (bitsB 27 134217727) := by kernel_rfl
theorem rdW39_27 : Region.ready .any opsW39 (bitsB 27 134217727) = [] := by kernel_rfl
end Go.Proofs.Ytdhklfbelplbcaa
