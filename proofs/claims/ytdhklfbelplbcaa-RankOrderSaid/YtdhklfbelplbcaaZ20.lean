/-
  The orders of the drawn region 18 of Parts.
-/
import Derived.Test.YtdhklfbelplbcaaZ10
namespace Go.Proofs.Ytdhklfbelplbcaa
set_option maxRecDepth 100000
noncomputable def opsZ18 : Array Oper := regIn 18 Try.f55
theorem nsZ18 : Region.noSelect opsZ18 = true := by kernel_rfl
theorem liZ18 : Array.replicate opsZ18.size false = (bitsB 19 0) := by kernel_rfl
theorem rdZ18_0 : Region.ready .any opsZ18 (bitsB 19 0) = [0, 1, 2] := by kernel_rfl
theorem frZ18_0 : Region.free .any opsZ18 (bitsB 19 0) 0 = true := by kernel_rfl
theorem stZ18_0 : (bitsB 19 0).setIfInBounds 0 true = (bitsB 19 1) := by kernel_rfl
theorem rdZ18_1 : Region.ready .any opsZ18 (bitsB 19 1) = [1, 2] := by kernel_rfl
theorem frZ18_1 : Region.free .any opsZ18 (bitsB 19 1) 1 = true := by kernel_rfl
theorem stZ18_1 : (bitsB 19 1).setIfInBounds 1 true = (bitsB 19 3) := by kernel_rfl
theorem rdZ18_2 : Region.ready .any opsZ18 (bitsB 19 3) = [2] := by kernel_rfl
theorem stZ18_2 : (bitsB 19 3).setIfInBounds 2 true = (bitsB 19 7) := by kernel_rfl
theorem rdZ18_3 : Region.ready .any opsZ18 (bitsB 19 7) = [3] := by kernel_rfl
theorem stZ18_3 : (bitsB 19 7).setIfInBounds 3 true = (bitsB 19 15) := by kernel_rfl
theorem rdZ18_4 : Region.ready .any opsZ18 (bitsB 19 15) = [4] := by kernel_rfl
theorem stZ18_4 : (bitsB 19 15).setIfInBounds 4 true = (bitsB 19 31) := by kernel_rfl
theorem rdZ18_5 : Region.ready .any opsZ18 (bitsB 19 31) = [5] := by kernel_rfl
theorem stZ18_5 : (bitsB 19 31).setIfInBounds 5 true = (bitsB 19 63) := by kernel_rfl
theorem rdZ18_6 : Region.ready .any opsZ18 (bitsB 19 63) = [6] := by kernel_rfl
theorem stZ18_6 : (bitsB 19 63).setIfInBounds 6 true = (bitsB 19 127) := by kernel_rfl
theorem rdZ18_7 : Region.ready .any opsZ18 (bitsB 19 127) = [7, 8, 11, 13, 14] := by kernel_rfl
theorem frZ18_2 : Region.free .any opsZ18 (bitsB 19 127) 7 = true := by kernel_rfl
theorem stZ18_7 : (bitsB 19 127).setIfInBounds 7 true = (bitsB 19 255) := by kernel_rfl
theorem rdZ18_8 : Region.ready .any opsZ18 (bitsB 19 255) = [8, 11, 13, 14] := by kernel_rfl
theorem frZ18_3 : Region.free .any opsZ18 (bitsB 19 255) 8 = true := by kernel_rfl
theorem stZ18_8 : (bitsB 19 255).setIfInBounds 8 true = (bitsB 19 511) := by kernel_rfl
theorem rdZ18_9 : Region.ready .any opsZ18 (bitsB 19 511) = [9, 11, 13, 14] := by kernel_rfl
theorem frZ18_4 : Region.free .any opsZ18 (bitsB 19 511) 9 = true := by kernel_rfl
theorem stZ18_9 : (bitsB 19 511).setIfInBounds 9 true = (bitsB 19 1023) := by kernel_rfl
theorem rdZ18_10 : Region.ready .any opsZ18 (bitsB 19 1023) = [10, 11, 13, 14] := by kernel_rfl
theorem frZ18_5 : Region.free .any opsZ18 (bitsB 19 1023) 10 = true := by kernel_rfl
theorem stZ18_10 : (bitsB 19 1023).setIfInBounds 10 true = (bitsB 19 2047) := by kernel_rfl
theorem rdZ18_11 : Region.ready .any opsZ18 (bitsB 19 2047) = [11, 13, 14] := by kernel_rfl
theorem frZ18_6 : Region.free .any opsZ18 (bitsB 19 2047) 11 = true := by kernel_rfl
theorem stZ18_11 : (bitsB 19 2047).setIfInBounds 11 true = (bitsB 19 4095) := by kernel_rfl
theorem rdZ18_12 : Region.ready .any opsZ18 (bitsB 19 4095) = [12, 13, 14] := by kernel_rfl
theorem frZ18_7 : Region.free .any opsZ18 (bitsB 19 4095) 12 = true := by kernel_rfl
theorem stZ18_12 : (bitsB 19 4095).setIfInBounds 12 true = (bitsB 19 8191) := by kernel_rfl
theorem rdZ18_13 : Region.ready .any opsZ18 (bitsB 19 8191) = [13, 14] := by kernel_rfl
theorem frZ18_8 : Region.free .any opsZ18 (bitsB 19 8191) 13 = true := by kernel_rfl
theorem stZ18_13 : (bitsB 19 8191).setIfInBounds 13 true = (bitsB 19 16383) := by kernel_rfl
theorem rdZ18_14 : Region.ready .any opsZ18 (bitsB 19 16383) = [14] := by kernel_rfl
theorem stZ18_14 : (bitsB 19 16383).setIfInBounds 14 true = (bitsB 19 32767) := by kernel_rfl
theorem rdZ18_15 : Region.ready .any opsZ18 (bitsB 19 32767) = [15] := by kernel_rfl
theorem stZ18_15 : (bitsB 19 32767).setIfInBounds 15 true = (bitsB 19 65535) := by kernel_rfl
theorem rdZ18_16 : Region.ready .any opsZ18 (bitsB 19 65535) = [16] := by kernel_rfl
theorem stZ18_16 : (bitsB 19 65535).setIfInBounds 16 true = (bitsB 19 131071) := by kernel_rfl
theorem rdZ18_17 : Region.ready .any opsZ18 (bitsB 19 131071) = [17] := by kernel_rfl
theorem stZ18_17 : (bitsB 19 131071).setIfInBounds 17 true = (bitsB 19 262143) := by kernel_rfl
theorem rdZ18_18 : Region.ready .any opsZ18 (bitsB 19 262143) = [18] := by kernel_rfl
theorem stZ18_18 : (bitsB 19 262143).setIfInBounds 18 true = (bitsB 19 524287) := by kernel_rfl
theorem rdZ18_19 : Region.ready .any opsZ18 (bitsB 19 524287) = [] := by kernel_rfl
theorem frZ18_9 : Region.free .any opsZ18 (bitsB 19 4095) 13 = true := by kernel_rfl
theorem stZ18_19 : (bitsB 19 4095).setIfInBounds 13 true = (bitsB 19 12287) := by kernel_rfl
theorem rdZ18_20 : Region.ready .any opsZ18 (bitsB 19 12287) = [12, 14] := by kernel_rfl
theorem frZ18_10 : Region.free .any opsZ18 (bitsB 19 12287) 14 = true := by kernel_rfl
theorem stZ18_20 : (bitsB 19 12287).setIfInBounds 14 true = (bitsB 19 28671) := by kernel_rfl
theorem rdZ18_21 : Region.ready .any opsZ18 (bitsB 19 28671) = [12, 15] := by kernel_rfl
theorem frZ18_11 : Region.free .any opsZ18 (bitsB 19 28671) 15 = true := by kernel_rfl
theorem stZ18_21 : (bitsB 19 28671).setIfInBounds 15 true = (bitsB 19 61439) := by kernel_rfl
theorem rdZ18_22 : Region.ready .any opsZ18 (bitsB 19 61439) = [12, 16] := by kernel_rfl
theorem frZ18_12 : Region.free .any opsZ18 (bitsB 19 61439) 16 = true := by kernel_rfl
theorem stZ18_22 : (bitsB 19 61439).setIfInBounds 16 true = (bitsB 19 126975) := by kernel_rfl
theorem rdZ18_23 : Region.ready .any opsZ18 (bitsB 19 126975) = [12] := by kernel_rfl
theorem stZ18_23 : (bitsB 19 126975).setIfInBounds 12 true = (bitsB 19 131071) := by kernel_rfl
end Go.Proofs.Ytdhklfbelplbcaa
