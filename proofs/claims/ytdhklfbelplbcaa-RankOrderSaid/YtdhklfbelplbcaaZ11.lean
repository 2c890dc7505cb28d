/-
  The orders of drawn regions of with.
-/
import Derived.Test.YtdhklfbelplbcaaZ10
namespace Go.Proofs.Ytdhklfbelplbcaa
set_option maxRecDepth 100000
noncomputable def opsX2 : Array Oper := regIn 2 Try.f39
theorem nsX2 : Region.noSelect opsX2 = true := by kernel_rfl
theorem liX2 : Array.replicate opsX2.size false = (bitsB 12 0) := by kernel_rfl
theorem rdX2_0 : Region.ready .any opsX2 (bitsB 12 0) = [0, 1] := by kernel_rfl
theorem frX2_0 : Region.free .any opsX2 (bitsB 12 0) 0 = true := by kernel_rfl
theorem stX2_0 : (bitsB 12 0).setIfInBounds 0 true = (bitsB 12 1) := by kernel_rfl
theorem rdX2_1 : Region.ready .any opsX2 (bitsB 12 1) = [1] := by kernel_rfl
theorem stX2_1 : (bitsB 12 1).setIfInBounds 1 true = (bitsB 12 3) := by kernel_rfl
theorem rdX2_2 : Region.ready .any opsX2 (bitsB 12 3) = [2] := by kernel_rfl
theorem stX2_2 : (bitsB 12 3).setIfInBounds 2 true = (bitsB 12 7) := by kernel_rfl
theorem rdX2_3 : Region.ready .any opsX2 (bitsB 12 7) = [3] := by kernel_rfl
theorem stX2_3 : (bitsB 12 7).setIfInBounds 3 true = (bitsB 12 15) := by kernel_rfl
theorem rdX2_4 : Region.ready .any opsX2 (bitsB 12 15) = [4] := by kernel_rfl
theorem stX2_4 : (bitsB 12 15).setIfInBounds 4 true = (bitsB 12 31) := by kernel_rfl
theorem rdX2_5 : Region.ready .any opsX2 (bitsB 12 31) = [5, 6, 9] := by kernel_rfl
theorem frX2_1 : Region.free .any opsX2 (bitsB 12 31) 5 = true := by kernel_rfl
theorem stX2_5 : (bitsB 12 31).setIfInBounds 5 true = (bitsB 12 63) := by kernel_rfl
theorem rdX2_6 : Region.ready .any opsX2 (bitsB 12 63) = [6, 9] := by kernel_rfl
theorem frX2_2 : Region.free .any opsX2 (bitsB 12 63) 6 = true := by kernel_rfl
theorem stX2_6 : (bitsB 12 63).setIfInBounds 6 true = (bitsB 12 127) := by kernel_rfl
theorem rdX2_7 : Region.ready .any opsX2 (bitsB 12 127) = [7, 9] := by kernel_rfl
theorem frX2_3 : Region.free .any opsX2 (bitsB 12 127) 7 = true := by kernel_rfl
theorem stX2_7 : (bitsB 12 127).setIfInBounds 7 true = (bitsB 12 255) := by kernel_rfl
theorem rdX2_8 : Region.ready .any opsX2 (bitsB 12 255) = [8, 9] := by kernel_rfl
theorem frX2_4 : Region.free .any opsX2 (bitsB 12 255) 8 = true := by kernel_rfl
theorem stX2_8 : (bitsB 12 255).setIfInBounds 8 true = (bitsB 12 511) := by kernel_rfl
theorem rdX2_9 : Region.ready .any opsX2 (bitsB 12 511) = [9] := by kernel_rfl
theorem stX2_9 : (bitsB 12 511).setIfInBounds 9 true = (bitsB 12 1023) := by kernel_rfl
theorem rdX2_10 : Region.ready .any opsX2 (bitsB 12 1023) = [10] := by kernel_rfl
theorem stX2_10 : (bitsB 12 1023).setIfInBounds 10 true = (bitsB 12 2047) := by kernel_rfl
theorem rdX2_11 : Region.ready .any opsX2 (bitsB 12 2047) = [11] := by kernel_rfl
theorem stX2_11 : (bitsB 12 2047).setIfInBounds 11 true = (bitsB 12 4095) := by kernel_rfl
theorem rdX2_12 : Region.ready .any opsX2 (bitsB 12 4095) = [] := by kernel_rfl
noncomputable def opsX4 : Array Oper := regIn 4 Try.f39
theorem nsX4 : Region.noSelect opsX4 = true := by kernel_rfl
theorem liX4 : Array.replicate opsX4.size false = (bitsB 12 0) := by kernel_rfl
theorem rdX4_0 : Region.ready .any opsX4 (bitsB 12 0) = [0, 1] := by kernel_rfl
theorem frX4_0 : Region.free .any opsX4 (bitsB 12 0) 0 = true := by kernel_rfl
theorem stX4_0 : (bitsB 12 0).setIfInBounds 0 true = (bitsB 12 1) := by kernel_rfl
theorem rdX4_1 : Region.ready .any opsX4 (bitsB 12 1) = [1] := by kernel_rfl
theorem stX4_1 : (bitsB 12 1).setIfInBounds 1 true = (bitsB 12 3) := by kernel_rfl
theorem rdX4_2 : Region.ready .any opsX4 (bitsB 12 3) = [2] := by kernel_rfl
theorem stX4_2 : (bitsB 12 3).setIfInBounds 2 true = (bitsB 12 7) := by kernel_rfl
theorem rdX4_3 : Region.ready .any opsX4 (bitsB 12 7) = [3] := by kernel_rfl
theorem stX4_3 : (bitsB 12 7).setIfInBounds 3 true = (bitsB 12 15) := by kernel_rfl
theorem rdX4_4 : Region.ready .any opsX4 (bitsB 12 15) = [4] := by kernel_rfl
theorem stX4_4 : (bitsB 12 15).setIfInBounds 4 true = (bitsB 12 31) := by kernel_rfl
theorem rdX4_5 : Region.ready .any opsX4 (bitsB 12 31) = [5, 6, 9] := by kernel_rfl
theorem frX4_1 : Region.free .any opsX4 (bitsB 12 31) 5 = true := by kernel_rfl
theorem stX4_5 : (bitsB 12 31).setIfInBounds 5 true = (bitsB 12 63) := by kernel_rfl
theorem rdX4_6 : Region.ready .any opsX4 (bitsB 12 63) = [6, 9] := by kernel_rfl
theorem frX4_2 : Region.free .any opsX4 (bitsB 12 63) 6 = true := by kernel_rfl
theorem stX4_6 : (bitsB 12 63).setIfInBounds 6 true = (bitsB 12 127) := by kernel_rfl
theorem rdX4_7 : Region.ready .any opsX4 (bitsB 12 127) = [7, 9] := by kernel_rfl
theorem frX4_3 : Region.free .any opsX4 (bitsB 12 127) 7 = true := by kernel_rfl
theorem stX4_7 : (bitsB 12 127).setIfInBounds 7 true = (bitsB 12 255) := by kernel_rfl
theorem rdX4_8 : Region.ready .any opsX4 (bitsB 12 255) = [8, 9] := by kernel_rfl
theorem frX4_4 : Region.free .any opsX4 (bitsB 12 255) 8 = true := by kernel_rfl
theorem stX4_8 : (bitsB 12 255).setIfInBounds 8 true = (bitsB 12 511) := by kernel_rfl
theorem rdX4_9 : Region.ready .any opsX4 (bitsB 12 511) = [9] := by kernel_rfl
theorem stX4_9 : (bitsB 12 511).setIfInBounds 9 true = (bitsB 12 1023) := by kernel_rfl
theorem rdX4_10 : Region.ready .any opsX4 (bitsB 12 1023) = [10] := by kernel_rfl
theorem stX4_10 : (bitsB 12 1023).setIfInBounds 10 true = (bitsB 12 2047) := by kernel_rfl
theorem rdX4_11 : Region.ready .any opsX4 (bitsB 12 2047) = [11] := by kernel_rfl
theorem stX4_11 : (bitsB 12 2047).setIfInBounds 11 true = (bitsB 12 4095) := by kernel_rfl
theorem rdX4_12 : Region.ready .any opsX4 (bitsB 12 4095) = [] := by kernel_rfl
noncomputable def opsX6 : Array Oper := regIn 6 Try.f39
theorem nsX6 : Region.noSelect opsX6 = true := by kernel_rfl
theorem liX6 : Array.replicate opsX6.size false = (bitsB 13 0) := by kernel_rfl
theorem rdX6_0 : Region.ready .any opsX6 (bitsB 13 0) = [0, 1, 2, 5, 8, 9] := by kernel_rfl
theorem frX6_0 : Region.free .any opsX6 (bitsB 13 0) 1 = true := by kernel_rfl
theorem stX6_0 : (bitsB 13 0).setIfInBounds 1 true = (bitsB 13 2) := by kernel_rfl
theorem rdX6_1 : Region.ready .any opsX6 (bitsB 13 2) = [0, 2, 5, 8, 9] := by kernel_rfl
theorem frX6_1 : Region.free .any opsX6 (bitsB 13 2) 2 = true := by kernel_rfl
theorem stX6_1 : (bitsB 13 2).setIfInBounds 2 true = (bitsB 13 6) := by kernel_rfl
theorem rdX6_2 : Region.ready .any opsX6 (bitsB 13 6) = [0, 3, 5, 8, 9] := by kernel_rfl
theorem frX6_2 : Region.free .any opsX6 (bitsB 13 6) 3 = true := by kernel_rfl
theorem stX6_2 : (bitsB 13 6).setIfInBounds 3 true = (bitsB 13 14) := by kernel_rfl
theorem rdX6_3 : Region.ready .any opsX6 (bitsB 13 14) = [0, 5, 8, 9] := by kernel_rfl
theorem frX6_3 : Region.free .any opsX6 (bitsB 13 14) 5 = true := by kernel_rfl
theorem stX6_3 : (bitsB 13 14).setIfInBounds 5 true = (bitsB 13 46) := by kernel_rfl
theorem rdX6_4 : Region.ready .any opsX6 (bitsB 13 46) = [0, 6, 8, 9] := by kernel_rfl
theorem frX6_4 : Region.free .any opsX6 (bitsB 13 46) 8 = true := by kernel_rfl
theorem stX6_4 : (bitsB 13 46).setIfInBounds 8 true = (bitsB 13 302) := by kernel_rfl
theorem rdX6_5 : Region.ready .any opsX6 (bitsB 13 302) = [0, 6, 9] := by kernel_rfl
theorem frX6_5 : Region.free .any opsX6 (bitsB 13 302) 9 = true := by kernel_rfl
theorem stX6_5 : (bitsB 13 302).setIfInBounds 9 true = (bitsB 13 814) := by kernel_rfl
theorem rdX6_6 : Region.ready .any opsX6 (bitsB 13 814) = [0, 6, 10] := by kernel_rfl
theorem frX6_6 : Region.free .any opsX6 (bitsB 13 814) 10 = true := by kernel_rfl
theorem stX6_6 : (bitsB 13 814).setIfInBounds 10 true = (bitsB 13 1838) := by kernel_rfl
theorem stX6_7 : (bitsB 13 1838).setIfInBounds 6 true = (bitsB 13 1902) := by kernel_rfl
theorem stX6_8 : (bitsB 13 1838).setIfInBounds 0 true = (bitsB 13 1839) := by kernel_rfl
theorem rdX6_7 : Region.ready .any opsX6 (bitsB 13 1838) = [0, 6] := by kernel_rfl
theorem stX6_9 : (bitsB 13 1839).setIfInBounds 6 true = (bitsB 13 1903) := by kernel_rfl
theorem stX6_10 : (bitsB 13 1839).setIfInBounds 4 true = (bitsB 13 1855) := by kernel_rfl
theorem rdX6_8 : Region.ready .any opsX6 (bitsB 13 1839) = [4, 6] := by kernel_rfl
theorem rdX6_9 : Region.ready .any opsX6 (bitsB 13 1855) = [6] := by kernel_rfl
theorem stX6_11 : (bitsB 13 1855).setIfInBounds 6 true = (bitsB 13 1919) := by kernel_rfl
theorem rdX6_10 : Region.ready .any opsX6 (bitsB 13 1919) = [7] := by kernel_rfl
theorem stX6_12 : (bitsB 13 1919).setIfInBounds 7 true = (bitsB 13 2047) := by kernel_rfl
theorem rdX6_11 : Region.ready .any opsX6 (bitsB 13 2047) = [11] := by kernel_rfl
theorem stX6_13 : (bitsB 13 2047).setIfInBounds 11 true = (bitsB 13 4095) := by kernel_rfl
theorem rdX6_12 : Region.ready .any opsX6 (bitsB 13 4095) = [12] := by kernel_rfl
theorem stX6_14 : (bitsB 13 4095).setIfInBounds 12 true = (bitsB 13 8191) := by kernel_rfl
theorem rdX6_13 : Region.ready .any opsX6 (bitsB 13 8191) = [] := by kernel_rfl
theorem rdX6_14 : Region.ready .any opsX6 (bitsB 13 1903) = [4] := by kernel_rfl
theorem stX6_15 : (bitsB 13 1903).setIfInBounds 4 true = (bitsB 13 1919) := by kernel_rfl
theorem rdX6_15 : Region.ready .any opsX6 (bitsB 13 1902) = [0] := by kernel_rfl
theorem stX6_16 : (bitsB 13 1902).setIfInBounds 0 true = (bitsB 13 1903) := by kernel_rfl
end Go.Proofs.Ytdhklfbelplbcaa
