/-
  The orders of the drawn region 15 of rings.
-/
import Derived.Test.YtdhklfbelplbcaaZ10
namespace Go.Proofs.Ytdhklfbelplbcaa
set_option maxRecDepth 100000
noncomputable def opsV15 : Array Oper := regIn 15 Try.f42
theorem nsV15 : Region.noSelect opsV15 = true := by kernel_rfl
theorem liV15 : Array.replicate opsV15.size false = (bitsB 30 0) := by kernel_rfl
theorem rdV15_0 : Region.ready .any opsV15 (bitsB 30 0) = [0] := by kernel_rfl
theorem stV15_0 : (bitsB 30 0).setIfInBounds 0 true = (bitsB 30 1) := by kernel_rfl
theorem rdV15_1 : Region.ready .any opsV15 (bitsB 30 1) = [1] := by kernel_rfl
theorem stV15_1 : (bitsB 30 1).setIfInBounds 1 true = (bitsB 30 3) := by kernel_rfl
theorem rdV15_2 : Region.ready .any opsV15 (bitsB 30 3) = [2, 3, 7, 8] := by kernel_rfl
theorem frV15_0 : Region.free .any opsV15 (bitsB 30 3) 2 = true := by kernel_rfl
theorem stV15_2 : (bitsB 30 3).setIfInBounds 2 true = (bitsB 30 7) := by kernel_rfl
theorem rdV15_3 : Region.ready .any opsV15 (bitsB 30 7) = [3, 7, 8] := by kernel_rfl
theorem frV15_1 : Region.free .any opsV15 (bitsB 30 7) 3 = true := by kernel_rfl
theorem stV15_3 : (bitsB 30 7).setIfInBounds 3 true = (bitsB 30 15) := by kernel_rfl
theorem rdV15_4 : Region.ready .any opsV15 (bitsB 30 15) = [4, 7, 8] := by kernel_rfl
theorem frV15_2 : Region.free .any opsV15 (bitsB 30 15) 4 = true := by kernel_rfl
theorem stV15_4 : (bitsB 30 15).setIfInBounds 4 true = (bitsB 30 31) := by kernel_rfl
theorem rdV15_5 : Region.ready .any opsV15 (bitsB 30 31) = [5, 7, 8] := by kernel_rfl
theorem frV15_3 : Region.free .any opsV15 (bitsB 30 31) 5 = true := by kernel_rfl
theorem stV15_5 : (bitsB 30 31).setIfInBounds 5 true = (bitsB 30 63) := by kernel_rfl
theorem rdV15_6 : Region.ready .any opsV15 (bitsB 30 63) = [6, 7, 8] := by kernel_rfl
theorem frV15_4 : Region.free .any opsV15 (bitsB 30 63) 6 = true := by kernel_rfl
theorem stV15_6 : (bitsB 30 63).setIfInBounds 6 true = (bitsB 30 127) := by kernel_rfl
theorem rdV15_7 : Region.ready .any opsV15 (bitsB 30 127) = [7, 8] := by kernel_rfl
theorem frV15_5 : Region.free .any opsV15 (bitsB 30 127) 7 = true := by kernel_rfl
theorem stV15_7 : (bitsB 30 127).setIfInBounds 7 true = (bitsB 30 255) := by kernel_rfl
theorem rdV15_8 : Region.ready .any opsV15 (bitsB 30 255) = [8] := by kernel_rfl
theorem stV15_8 : (bitsB 30 255).setIfInBounds 8 true = (bitsB 30 511) := by kernel_rfl
theorem rdV15_9 : Region.ready .any opsV15 (bitsB 30 511) = [9] := by kernel_rfl
theorem stV15_9 : (bitsB 30 511).setIfInBounds 9 true = (bitsB 30 1023) := by kernel_rfl
theorem rdV15_10 : Region.ready .any opsV15 (bitsB 30 1023) = [10] := by kernel_rfl
theorem stV15_10 : (bitsB 30 1023).setIfInBounds 10 true = (bitsB 30 2047) := by kernel_rfl
theorem rdV15_11 : Region.ready .any opsV15 (bitsB 30 2047) = [11] := by kernel_rfl
theorem stV15_11 : (bitsB 30 2047).setIfInBounds 11 true = (bitsB 30 4095) := by kernel_rfl
theorem rdV15_12 : Region.ready .any opsV15 (bitsB 30 4095) = [12] := by kernel_rfl
theorem stV15_12 : (bitsB 30 4095).setIfInBounds 12 true = (bitsB 30 8191) := by kernel_rfl
theorem rdV15_13 : Region.ready .any opsV15 (bitsB 30 8191) = [13] := by kernel_rfl
theorem stV15_13 : (bitsB 30 8191).setIfInBounds 13 true = (bitsB 30 16383) := by kernel_rfl
theorem rdV15_14 : Region.ready .any opsV15 (bitsB 30 16383) = [14] := by kernel_rfl
theorem stV15_14 : (bitsB 30 16383).setIfInBounds 14 true = (bitsB 30 32767) := by kernel_rfl
theorem rdV15_15 : Region.ready .any opsV15 (bitsB 30 32767) = [15, 16, 20, 21] := by kernel_rfl
theorem frV15_6 : Region.free .any opsV15 (bitsB 30 32767) 15 = true := by kernel_rfl
theorem stV15_15 : (bitsB 30 32767).setIfInBounds 15 true = (bitsB 30 65535) := by kernel_rfl
theorem rdV15_16 : Region.ready .any opsV15 (bitsB 30 65535) = [16, 20, 21] := by kernel_rfl
theorem frV15_7 : Region.free .any opsV15 (bitsB 30 65535) 16 = true := by kernel_rfl
theorem stV15_16 : (bitsB 30 65535).setIfInBounds 16 true = (bitsB 30 131071) := by kernel_rfl
theorem rdV15_17 : Region.ready .any opsV15 (bitsB 30 131071) = [17, 20, 21] := by kernel_rfl
theorem frV15_8 : Region.free .any opsV15 (bitsB 30 131071) 17 = true := by kernel_rfl
theorem stV15_17 : (bitsB 30 131071).setIfInBounds 17 true = (bitsB 30 262143) := by kernel_rfl
theorem rdV15_18 : Region.ready .any opsV15 (bitsB 30 262143) = [18, 20, 21] := by kernel_rfl
theorem frV15_9 : Region.free .any opsV15 (bitsB 30 262143) 18 = true := by kernel_rfl
theorem stV15_18 : (bitsB 30 262143).setIfInBounds 18 true = (bitsB 30 524287) := by kernel_rfl
theorem rdV15_19 : Region.ready .any opsV15 (bitsB 30 524287) = [19, 20, 21] := by kernel_rfl
theorem frV15_10 : Region.free .any opsV15 (bitsB 30 524287) 19 = true := by kernel_rfl
theorem stV15_19 : (bitsB 30 524287).setIfInBounds 19 true = (bitsB 30 1048575) := by kernel_rfl
theorem rdV15_20 : Region.ready .any opsV15 (bitsB 30 1048575) = [20, 21] := by kernel_rfl
theorem frV15_11 : Region.free .any opsV15 (bitsB 30 1048575) 20 = true := by kernel_rfl
theorem stV15_20 : (bitsB 30 1048575).setIfInBounds 20 true = (bitsB 30 2097151) := by kernel_rfl
theorem rdV15_21 : Region.ready .any opsV15 (bitsB 30 2097151) = [21] := by kernel_rfl
theorem stV15_21 : (bitsB 30 2097151).setIfInBounds 21 true = (bitsB 30 4194303) := by kernel_rfl
theorem rdV15_22 : Region.ready .any opsV15 (bitsB 30 4194303) = [22] := by kernel_rfl
theorem stV15_22 : (bitsB 30 4194303).setIfInBounds 22 true = (bitsB 30 8388607) := by kernel_rfl
theorem rdV15_23 : Region.ready .any opsV15 (bitsB 30 8388607) = [23] := by kernel_rfl
theorem stV15_23 : (bitsB 30 8388607).setIfInBounds 23 true = (bitsB 30 16777215) := by kernel_rfl
theorem rdV15_24 : Region.ready .any opsV15 (bitsB 30 16777215) = [24] := by kernel_rfl
theorem stV15_24 : (bitsB 30 16777215).setIfInBounds 24 true = (bitsB 30 33554431) := by kernel_rfl
theorem rdV15_25 : Region.ready .any opsV15 (bitsB 30 33554431) = [25] := by kernel_rfl
theorem stV15_25 : (bitsB 30 33554431).setIfInBounds 25 true = (bitsB 30 67108863) := by kernel_rfl
theorem rdV15_26 : Region.ready .any opsV15 (bitsB 30 67108863) = [26] := by kernel_rfl
theorem stV15_26 : (bitsB 30 67108863).setIfInBounds 26 true = (bitsB 30 134217727) := by kernel_rfl
theorem rdV15_27 : Region.ready .any opsV15 (bitsB 30 134217727) = [27] := by kernel_rfl
theorem stV15_27 : (bitsB 30 134217727).setIfInBounds 27 true = (bitsB 30 268435455) := by kernel_rfl
theorem rdV15_28 : Region.ready .any opsV15 (bitsB 30 268435455) = [28] := by kernel_rfl
theorem stV15_28 : (bitsB 30 268435455).setIfInBounds 28 true = (bitsB 30 536870911) := by kernel_rfl
theorem rdV15_29 : Region.ready .any opsV15 (bitsB 30 536870911) = [29] := by kernel_rfl
theorem stV15_29 : (bitsB 30 536870911).setIfInBounds 29 true = (bitsB 30 1073741823) := by kernel_rfl
theorem rdV15_30 : Region.ready .any opsV15 (bitsB 30 1073741823) = [] := by kernel_rfl
end Go.Proofs.Ytdhklfbelplbcaa
