/-
  The orders of the drawn region 6 of linked.
-/
import Derived.Test.YtdhklfbelplbcaaZ10
namespace Go.Proofs.Ytdhklfbelplbcaa
set_option maxRecDepth 100000
noncomputable def opsY2 : Array Oper := regIn 2 Try.f41
theorem nsY2 : Region.noSelect opsY2 = true := by kernel_rfl
theorem liY2 : Array.replicate opsY2.size false = (bitsB 34 0) := by kernel_rfl
theorem rdY2_0 : Region.ready .any opsY2 (bitsB 34 0) = [0, 1] := by kernel_rfl
theorem frY2_0 : Region.free .any opsY2 (bitsB 34 0) 0 = true := by kernel_rfl
theorem stY2_0 : (bitsB 34 0).setIfInBounds 0 true = (bitsB 34 1) := by kernel_rfl
theorem rdY2_1 : Region.ready .any opsY2 (bitsB 34 1) = [1] := by kernel_rfl
theorem stY2_1 : (bitsB 34 1).setIfInBounds 1 true = (bitsB 34 3) := by kernel_rfl
theorem rdY2_2 : Region.ready .any opsY2 (bitsB 34 3) = [2] := by kernel_rfl
theorem stY2_2 : (bitsB 34 3).setIfInBounds 2 true = (bitsB 34 7) := by kernel_rfl
theorem rdY2_3 : Region.ready .any opsY2 (bitsB 34 7) = [3] := by kernel_rfl
theorem stY2_3 : (bitsB 34 7).setIfInBounds 3 true = (bitsB 34 15) := by kernel_rfl
theorem rdY2_4 : Region.ready .any opsY2 (bitsB 34 15) = [4] := by kernel_rfl
theorem stY2_4 : (bitsB 34 15).setIfInBounds 4 true = (bitsB 34 31) := by kernel_rfl
theorem rdY2_5 : Region.ready .any opsY2 (bitsB 34 31) = [5, 6, 10] := by kernel_rfl
theorem frY2_1 : Region.free .any opsY2 (bitsB 34 31) 5 = true := by kernel_rfl
theorem stY2_5 : (bitsB 34 31).setIfInBounds 5 true = (bitsB 34 63) := by kernel_rfl
theorem rdY2_6 : Region.ready .any opsY2 (bitsB 34 63) = [6, 10] := by kernel_rfl
theorem frY2_2 : Region.free .any opsY2 (bitsB 34 63) 6 = true := by kernel_rfl
theorem stY2_6 : (bitsB 34 63).setIfInBounds 6 true = (bitsB 34 127) := by kernel_rfl
theorem rdY2_7 : Region.ready .any opsY2 (bitsB 34 127) = [7, 10] := by kernel_rfl
theorem frY2_3 : Region.free .any opsY2 (bitsB 34 127) 7 = true := by kernel_rfl
theorem stY2_7 : (bitsB 34 127).setIfInBounds 7 true = (bitsB 34 255) := by kernel_rfl
theorem rdY2_8 : Region.ready .any opsY2 (bitsB 34 255) = [8, 10] := by kernel_rfl
theorem frY2_4 : Region.free .any opsY2 (bitsB 34 255) 8 = true := by kernel_rfl
theorem stY2_8 : (bitsB 34 255).setIfInBounds 8 true = (bitsB 34 511) := by kernel_rfl
theorem rdY2_9 : Region.ready .any opsY2 (bitsB 34 511) = [9, 10] := by kernel_rfl
theorem frY2_5 : Region.free .any opsY2 (bitsB 34 511) 9 = true := by kernel_rfl
theorem stY2_9 : (bitsB 34 511).setIfInBounds 9 true = (bitsB 34 1023) := by kernel_rfl
theorem rdY2_10 : Region.ready .any opsY2 (bitsB 34 1023) = [10] := by kernel_rfl
theorem stY2_10 : (bitsB 34 1023).setIfInBounds 10 true = (bitsB 34 2047) := by kernel_rfl
theorem rdY2_11 : Region.ready .any opsY2 (bitsB 34 2047) = [11] := by kernel_rfl
theorem stY2_11 : (bitsB 34 2047).setIfInBounds 11 true = (bitsB 34 4095) := by kernel_rfl
theorem rdY2_12 : Region.ready .any opsY2 (bitsB 34 4095) = [12] := by kernel_rfl
theorem stY2_12 : (bitsB 34 4095).setIfInBounds 12 true = (bitsB 34 8191) := by kernel_rfl
theorem rdY2_13 : Region.ready .any opsY2 (bitsB 34 8191) = [13] := by kernel_rfl
theorem stY2_13 : (bitsB 34 8191).setIfInBounds 13 true = (bitsB 34 16383) := by kernel_rfl
theorem rdY2_14 : Region.ready .any opsY2 (bitsB 34 16383) = [14, 15, 19] := by kernel_rfl
theorem frY2_6 : Region.free .any opsY2 (bitsB 34 16383) 14 = true := by kernel_rfl
theorem stY2_14 : (bitsB 34 16383).setIfInBounds 14 true = (bitsB 34 32767) := by kernel_rfl
theorem rdY2_15 : Region.ready .any opsY2 (bitsB 34 32767) = [15, 19] := by kernel_rfl
theorem frY2_7 : Region.free .any opsY2 (bitsB 34 32767) 15 = true := by kernel_rfl
theorem stY2_15 : (bitsB 34 32767).setIfInBounds 15 true = (bitsB 34 65535) := by kernel_rfl
theorem rdY2_16 : Region.ready .any opsY2 (bitsB 34 65535) = [16, 19] := by kernel_rfl
theorem frY2_8 : Region.free .any opsY2 (bitsB 34 65535) 16 = true := by kernel_rfl
theorem stY2_16 : (bitsB 34 65535).setIfInBounds 16 true = (bitsB 34 131071) := by kernel_rfl
theorem rdY2_17 : Region.ready .any opsY2 (bitsB 34 131071) = [17, 19] := by kernel_rfl
theorem frY2_9 : Region.free .any opsY2 (bitsB 34 131071) 17 = true := by kernel_rfl
theorem stY2_17 : (bitsB 34 131071).setIfInBounds 17 true = (bitsB 34 262143) := by kernel_rfl
theorem rdY2_18 : Region.ready .any opsY2 (bitsB 34 262143) = [18, 19] := by kernel_rfl
theorem frY2_10 : Region.free .any opsY2 (bitsB 34 262143) 18 = true := by kernel_rfl
theorem stY2_18 : (bitsB 34 262143).setIfInBounds 18 true = (bitsB 34 524287) := by kernel_rfl
theorem rdY2_19 : Region.ready .any opsY2 (bitsB 34 524287) = [19] := by kernel_rfl
theorem stY2_19 : (bitsB 34 524287).setIfInBounds 19 true = (bitsB 34 1048575) := by kernel_rfl
theorem rdY2_20 : Region.ready .any opsY2 (bitsB 34 1048575) = [20] := by kernel_rfl
theorem stY2_20 : (bitsB 34 1048575).setIfInBounds 20 true = (bitsB 34 2097151) := by kernel_rfl
theorem rdY2_21 : Region.ready .any opsY2 (bitsB 34 2097151) = [21] := by kernel_rfl
theorem stY2_21 : (bitsB 34 2097151).setIfInBounds 21 true = (bitsB 34 4194303) := by kernel_rfl
theorem rdY2_22 : Region.ready .any opsY2 (bitsB 34 4194303) = [22] := by kernel_rfl
theorem stY2_22 : (bitsB 34 4194303).setIfInBounds 22 true = (bitsB 34 8388607) := by kernel_rfl
theorem rdY2_23 : Region.ready .any opsY2 (bitsB 34 8388607) = [23, 24, 28] := by kernel_rfl
theorem frY2_11 : Region.free .any opsY2 (bitsB 34 8388607) 23 = true := by kernel_rfl
theorem stY2_23 : (bitsB 34 8388607).setIfInBounds 23 true = (bitsB 34 16777215) := by kernel_rfl
theorem rdY2_24 : Region.ready .any opsY2 (bitsB 34 16777215) = [24, 28] := by kernel_rfl
theorem frY2_12 : Region.free .any opsY2 (bitsB 34 16777215) 24 = true := by kernel_rfl
theorem stY2_24 : (bitsB 34 16777215).setIfInBounds 24 true = (bitsB 34 33554431) := by kernel_rfl
theorem rdY2_25 : Region.ready .any opsY2 (bitsB 34 33554431) = [25, 28] := by kernel_rfl
theorem frY2_13 : Region.free .any opsY2 (bitsB 34 33554431) 25 = true := by kernel_rfl
theorem stY2_25 : (bitsB 34 33554431).setIfInBounds 25 true = (bitsB 34 67108863) := by kernel_rfl
theorem rdY2_26 : Region.ready .any opsY2 (bitsB 34 67108863) = [26, 28] := by kernel_rfl
theorem frY2_14 : Region.free .any opsY2 (bitsB 34 67108863) 26 = true := by kernel_rfl
theorem stY2_26 : (bitsB 34 67108863).setIfInBounds 26 true = (bitsB 34 134217727) := by kernel_rfl
theorem rdY2_27 : Region.ready .any opsY2 (bitsB 34 134217727) = [27, 28] := by kernel_rfl
theorem frY2_15 : Region.free .any opsY2 (bitsB 34 134217727) 27 = true := by kernel_rfl
theorem stY2_27 : (bitsB 34 134217727).setIfInBounds 27 true = (bitsB 34 268435455) := by kernel_rfl
theorem rdY2_28 : Region.ready .any opsY2 (bitsB 34 268435455) = [28] := by kernel_rfl
theorem stY2_28 : (bitsB 34 268435455).setIfInBounds 28 true = (bitsB 34 536870911) := by kernel_rfl
theorem rdY2_29 : Region.ready .any opsY2 (bitsB 34 536870911) = [29] := by kernel_rfl
theorem stY2_29 : (bitsB 34 536870911).setIfInBounds 29 true = (bitsB 34 1073741823) := by kernel_rfl
theorem rdY2_30 : Region.ready .any opsY2 (bitsB 34 1073741823) = [30] := by kernel_rfl
theorem stY2_30 : (bitsB 34 1073741823).setIfInBounds 30 true = (bitsB 34 2147483647) := by kernel_rfl
theorem rdY2_31 : Region.ready .any opsY2 (bitsB 34 2147483647) = [31] := by kernel_rfl
theorem stY2_31 : (bitsB 34 2147483647).setIfInBounds 31 true = (bitsB 34 4294967295) := by kernel_rfl
theorem rdY2_32 : Region.ready .any opsY2 (bitsB 34 4294967295) = [32] := by kernel_rfl
theorem stY2_32 : (bitsB 34 4294967295).setIfInBounds 32 true = (bitsB 34 8589934591) := by kernel_rfl
theorem rdY2_33 : Region.ready .any opsY2 (bitsB 34 8589934591) = [33] := by kernel_rfl
theorem stY2_33 : (bitsB 34 8589934591).setIfInBounds 33 true = (bitsB 34 17179869183) := by kernel_rfl
theorem rdY2_34 : Region.ready .any opsY2 (bitsB 34 17179869183) = [] := by kernel_rfl
noncomputable def opsY4 : Array Oper := regIn 4 Try.f41
theorem nsY4 : Region.noSelect opsY4 = true := by kernel_rfl
theorem liY4 : Array.replicate opsY4.size false = (bitsB 12 0) := by kernel_rfl
theorem rdY4_0 : Region.ready .any opsY4 (bitsB 12 0) = [0, 1] := by kernel_rfl
theorem frY4_0 : Region.free .any opsY4 (bitsB 12 0) 0 = true := by kernel_rfl
theorem stY4_0 : (bitsB 12 0).setIfInBounds 0 true = (bitsB 12 1) := by kernel_rfl
theorem rdY4_1 : Region.ready .any opsY4 (bitsB 12 1) = [1] := by kernel_rfl
theorem stY4_1 : (bitsB 12 1).setIfInBounds 1 true = (bitsB 12 3) := by kernel_rfl
theorem rdY4_2 : Region.ready .any opsY4 (bitsB 12 3) = [2] := by kernel_rfl
theorem stY4_2 : (bitsB 12 3).setIfInBounds 2 true = (bitsB 12 7) := by kernel_rfl
theorem rdY4_3 : Region.ready .any opsY4 (bitsB 12 7) = [3] := by kernel_rfl
theorem stY4_3 : (bitsB 12 7).setIfInBounds 3 true = (bitsB 12 15) := by kernel_rfl
theorem rdY4_4 : Region.ready .any opsY4 (bitsB 12 15) = [4] := by kernel_rfl
theorem stY4_4 : (bitsB 12 15).setIfInBounds 4 true = (bitsB 12 31) := by kernel_rfl
theorem rdY4_5 : Region.ready .any opsY4 (bitsB 12 31) = [5, 6, 9] := by kernel_rfl
theorem frY4_1 : Region.free .any opsY4 (bitsB 12 31) 5 = true := by kernel_rfl
theorem stY4_5 : (bitsB 12 31).setIfInBounds 5 true = (bitsB 12 63) := by kernel_rfl
theorem rdY4_6 : Region.ready .any opsY4 (bitsB 12 63) = [6, 9] := by kernel_rfl
theorem frY4_2 : Region.free .any opsY4 (bitsB 12 63) 6 = true := by kernel_rfl
theorem stY4_6 : (bitsB 12 63).setIfInBounds 6 true = (bitsB 12 127) := by kernel_rfl
theorem rdY4_7 : Region.ready .any opsY4 (bitsB 12 127) = [7, 9] := by kernel_rfl
theorem frY4_3 : Region.free .any opsY4 (bitsB 12 127) 7 = true := by kernel_rfl
theorem stY4_7 : (bitsB 12 127).setIfInBounds 7 true = (bitsB 12 255) := by kernel_rfl
theorem rdY4_8 : Region.ready .any opsY4 (bitsB 12 255) = [8, 9] := by kernel_rfl
theorem frY4_4 : Region.free .any opsY4 (bitsB 12 255) 8 = true := by kernel_rfl
theorem stY4_8 : (bitsB 12 255).setIfInBounds 8 true = (bitsB 12 511) := by kernel_rfl
theorem rdY4_9 : Region.ready .any opsY4 (bitsB 12 511) = [9] := by kernel_rfl
theorem stY4_9 : (bitsB 12 511).setIfInBounds 9 true = (bitsB 12 1023) := by kernel_rfl
theorem rdY4_10 : Region.ready .any opsY4 (bitsB 12 1023) = [10] := by kernel_rfl
theorem stY4_10 : (bitsB 12 1023).setIfInBounds 10 true = (bitsB 12 2047) := by kernel_rfl
theorem rdY4_11 : Region.ready .any opsY4 (bitsB 12 2047) = [11] := by kernel_rfl
theorem stY4_11 : (bitsB 12 2047).setIfInBounds 11 true = (bitsB 12 4095) := by kernel_rfl
theorem rdY4_12 : Region.ready .any opsY4 (bitsB 12 4095) = [] := by kernel_rfl
noncomputable def opsY6 : Array Oper := regIn 6 Try.f41
theorem nsY6 : Region.noSelect opsY6 = true := by kernel_rfl
theorem liY6 : Array.replicate opsY6.size false = (bitsB 13 0) := by kernel_rfl
theorem rdY6_0 : Region.ready .any opsY6 (bitsB 13 0) = [0, 1, 2, 5, 8, 9] := by kernel_rfl
theorem frY6_0 : Region.free .any opsY6 (bitsB 13 0) 1 = true := by kernel_rfl
theorem stY6_0 : (bitsB 13 0).setIfInBounds 1 true = (bitsB 13 2) := by kernel_rfl
theorem rdY6_1 : Region.ready .any opsY6 (bitsB 13 2) = [0, 2, 5, 8, 9] := by kernel_rfl
theorem frY6_1 : Region.free .any opsY6 (bitsB 13 2) 2 = true := by kernel_rfl
theorem stY6_1 : (bitsB 13 2).setIfInBounds 2 true = (bitsB 13 6) := by kernel_rfl
theorem rdY6_2 : Region.ready .any opsY6 (bitsB 13 6) = [0, 3, 5, 8, 9] := by kernel_rfl
theorem frY6_2 : Region.free .any opsY6 (bitsB 13 6) 3 = true := by kernel_rfl
theorem stY6_2 : (bitsB 13 6).setIfInBounds 3 true = (bitsB 13 14) := by kernel_rfl
theorem rdY6_3 : Region.ready .any opsY6 (bitsB 13 14) = [0, 5, 8, 9] := by kernel_rfl
theorem frY6_3 : Region.free .any opsY6 (bitsB 13 14) 5 = true := by kernel_rfl
theorem stY6_3 : (bitsB 13 14).setIfInBounds 5 true = (bitsB 13 46) := by kernel_rfl
theorem rdY6_4 : Region.ready .any opsY6 (bitsB 13 46) = [0, 6, 8, 9] := by kernel_rfl
theorem frY6_4 : Region.free .any opsY6 (bitsB 13 46) 8 = true := by kernel_rfl
theorem stY6_4 : (bitsB 13 46).setIfInBounds 8 true = (bitsB 13 302) := by kernel_rfl
theorem rdY6_5 : Region.ready .any opsY6 (bitsB 13 302) = [0, 6, 9] := by kernel_rfl
theorem frY6_5 : Region.free .any opsY6 (bitsB 13 302) 9 = true := by kernel_rfl
theorem stY6_5 : (bitsB 13 302).setIfInBounds 9 true = (bitsB 13 814) := by kernel_rfl
theorem rdY6_6 : Region.ready .any opsY6 (bitsB 13 814) = [0, 6, 10] := by kernel_rfl
theorem frY6_6 : Region.free .any opsY6 (bitsB 13 814) 10 = true := by kernel_rfl
theorem stY6_6 : (bitsB 13 814).setIfInBounds 10 true = (bitsB 13 1838) := by kernel_rfl
theorem stY6_7 : (bitsB 13 1838).setIfInBounds 6 true = (bitsB 13 1902) := by kernel_rfl
theorem stY6_8 : (bitsB 13 1838).setIfInBounds 0 true = (bitsB 13 1839) := by kernel_rfl
theorem rdY6_7 : Region.ready .any opsY6 (bitsB 13 1838) = [0, 6] := by kernel_rfl
theorem stY6_9 : (bitsB 13 1839).setIfInBounds 6 true = (bitsB 13 1903) := by kernel_rfl
theorem stY6_10 : (bitsB 13 1839).setIfInBounds 4 true = (bitsB 13 1855) := by kernel_rfl
theorem rdY6_8 : Region.ready .any opsY6 (bitsB 13 1839) = [4, 6] := by kernel_rfl
theorem rdY6_9 : Region.ready .any opsY6 (bitsB 13 1855) = [6] := by kernel_rfl
theorem stY6_11 : (bitsB 13 1855).setIfInBounds 6 true = (bitsB 13 1919) := by kernel_rfl
theorem rdY6_10 : Region.ready .any opsY6 (bitsB 13 1919) = [7] := by kernel_rfl
theorem stY6_12 : (bitsB 13 1919).setIfInBounds 7 true = (bitsB 13 2047) := by kernel_rfl
theorem rdY6_11 : Region.ready .any opsY6 (bitsB 13 2047) = [11] := by kernel_rfl
theorem stY6_13 : (bitsB 13 2047).setIfInBounds 11 true = (bitsB 13 4095) := by kernel_rfl
theorem rdY6_12 : Region.ready .any opsY6 (bitsB 13 4095) = [12] := by kernel_rfl
theorem stY6_14 : (bitsB 13 4095).setIfInBounds 12 true = (bitsB 13 8191) := by kernel_rfl
theorem rdY6_13 : Region.ready .any opsY6 (bitsB 13 8191) = [] := by kernel_rfl
theorem rdY6_14 : Region.ready .any opsY6 (bitsB 13 1903) = [4] := by kernel_rfl
theorem stY6_15 : (bitsB 13 1903).setIfInBounds 4 true = (bitsB 13 1919) := by kernel_rfl
theorem rdY6_15 : Region.ready .any opsY6 (bitsB 13 1902) = [0] := by kernel_rfl
theorem stY6_16 : (bitsB 13 1902).setIfInBounds 0 true = (bitsB 13 1903) := by kernel_rfl
end Go.Proofs.Ytdhklfbelplbcaa
