/- The orders of one drawn region of SectKnown: what may come up when. -/
import Derived.Test.YtjlhajnficneoaaRg
namespace Go.Proofs.Ytjlhajnficneoaa
set_option maxRecDepth 100000
noncomputable def opsK : Array Oper := regIn 10 Try.f11
theorem nsK : Region.noSelect opsK = true := by kernel_rfl
theorem liK : Array.replicate opsK.size false = (bitsB 95 0) := by kernel_rfl
theorem rdK_0 : Region.ready .any opsK (bitsB 95 0) = [0, 4, 7, 20, 64, 70, 87] := by kernel_rfl
theorem frK_0 : Region.free .any opsK (bitsB 95 0) 7 = true := by kernel_rfl
theorem stK_0 : (bitsB 95 0).setIfInBounds 7 true = (bitsB 95 128) := by kernel_rfl
theorem rdK_1 : Region.ready .any opsK (bitsB 95 128) = [0, 4, 8, 20, 64, 70, 87] := by kernel_rfl
theorem frK_1 : Region.free .any opsK (bitsB 95 128) 8 = true := by kernel_rfl
theorem stK_1 : (bitsB 95 128).setIfInBounds 8 true = (bitsB 95 384) := by kernel_rfl
theorem rdK_2 : Region.ready .any opsK (bitsB 95 384) = [0, 4, 20, 64, 70, 87] := by kernel_rfl
theorem frK_2 : Region.free .any opsK (bitsB 95 384) 20 = true := by kernel_rfl
theorem stK_2 : (bitsB 95 384).setIfInBounds 20 true = (bitsB 95 1048960) := by kernel_rfl
theorem rdK_3 : Region.ready .any opsK (bitsB 95 1048960) = [0, 4, 21, 64, 70, 87] := by kernel_rfl
theorem frK_3 : Region.free .any opsK (bitsB 95 1048960) 21 = true := by kernel_rfl
theorem stK_3 : (bitsB 95 1048960).setIfInBounds 21 true = (bitsB 95 3146112) := by kernel_rfl
theorem rdK_4 : Region.ready .any opsK (bitsB 95 3146112) = [0, 4, 64, 70, 87] := by kernel_rfl
theorem frK_4 : Region.free .any opsK (bitsB 95 3146112) 64 = true := by kernel_rfl
theorem stK_4 : (bitsB 95 3146112).setIfInBounds 64 true = (bitsB 95 18446744073712697728) := by kernel_rfl
theorem rdK_5 : Region.ready .any opsK (bitsB 95 18446744073712697728) = [0, 4, 65, 70, 87] := by kernel_rfl
theorem frK_5 : Region.free .any opsK (bitsB 95 18446744073712697728) 65 = true := by kernel_rfl
theorem stK_5 : (bitsB 95 18446744073712697728).setIfInBounds 65 true = (bitsB 95 55340232221131800960) := by kernel_rfl
theorem rdK_6 : Region.ready .any opsK (bitsB 95 55340232221131800960) = [0, 4, 70, 87] := by kernel_rfl
theorem frK_6 : Region.free .any opsK (bitsB 95 55340232221131800960) 70 = true := by kernel_rfl
theorem stK_6 : (bitsB 95 55340232221131800960).setIfInBounds 70 true = (bitsB 95 1235931852938543104384) := by kernel_rfl
theorem rdK_7 : Region.ready .any opsK (bitsB 95 1235931852938543104384) = [0, 4, 71, 87] := by kernel_rfl
theorem frK_7 : Region.free .any opsK (bitsB 95 1235931852938543104384) 71 = true := by kernel_rfl
theorem stK_7 : (bitsB 95 1235931852938543104384).setIfInBounds 71 true = (bitsB 95 3597115094373365711232) := by kernel_rfl
theorem rdK_8 : Region.ready .any opsK (bitsB 95 3597115094373365711232) = [0, 4, 87] := by kernel_rfl
theorem frK_8 : Region.free .any opsK (bitsB 95 3597115094373365711232) 87 = true := by kernel_rfl
theorem stK_8 : (bitsB 95 3597115094373365711232).setIfInBounds 87 true = (bitsB 95 154746102025766907728101760) := by kernel_rfl
theorem rdK_9 : Region.ready .any opsK (bitsB 95 154746102025766907728101760) = [0, 4, 88] := by kernel_rfl
theorem frK_9 : Region.free .any opsK (bitsB 95 154746102025766907728101760) 88 = true := by kernel_rfl
theorem stK_9 : (bitsB 95 154746102025766907728101760).setIfInBounds 88 true = (bitsB 95 464231111847111976452882816) := by kernel_rfl
theorem stK_10 : (bitsB 95 464231111847111976452882816).setIfInBounds 4 true = (bitsB 95 464231111847111976452882832) := by kernel_rfl
theorem stK_11 : (bitsB 95 464231111847111976452882816).setIfInBounds 0 true = (bitsB 95 464231111847111976452882817) := by kernel_rfl
theorem rdK_10 : Region.ready .any opsK (bitsB 95 464231111847111976452882816) = [0, 4] := by kernel_rfl
theorem stK_12 : (bitsB 95 464231111847111976452882817).setIfInBounds 4 true = (bitsB 95 464231111847111976452882833) := by kernel_rfl
theorem stK_13 : (bitsB 95 464231111847111976452882817).setIfInBounds 1 true = (bitsB 95 464231111847111976452882819) := by kernel_rfl
theorem rdK_11 : Region.ready .any opsK (bitsB 95 464231111847111976452882817) = [1, 4] := by kernel_rfl
theorem stK_14 : (bitsB 95 464231111847111976452882819).setIfInBounds 4 true = (bitsB 95 464231111847111976452882835) := by kernel_rfl
theorem stK_15 : (bitsB 95 464231111847111976452882819).setIfInBounds 2 true = (bitsB 95 464231111847111976452882823) := by kernel_rfl
theorem rdK_12 : Region.ready .any opsK (bitsB 95 464231111847111976452882819) = [2, 4] := by kernel_rfl
theorem rdK_13 : Region.ready .any opsK (bitsB 95 464231111847111976452882823) = [3, 4] := by kernel_rfl
theorem frK_10 : Region.free .any opsK (bitsB 95 464231111847111976452882823) 3 = true := by kernel_rfl
theorem stK_16 : (bitsB 95 464231111847111976452882823).setIfInBounds 3 true = (bitsB 95 464231111847111976452882831) := by kernel_rfl
theorem rdK_14 : Region.ready .any opsK (bitsB 95 464231111847111976452882831) = [4] := by kernel_rfl
theorem stK_17 : (bitsB 95 464231111847111976452882831).setIfInBounds 4 true = (bitsB 95 464231111847111976452882847) := by kernel_rfl
theorem rdK_15 : Region.ready .any opsK (bitsB 95 464231111847111976452882847) = [5] := by kernel_rfl
theorem stK_18 : (bitsB 95 464231111847111976452882847).setIfInBounds 5 true = (bitsB 95 464231111847111976452882879) := by kernel_rfl
theorem rdK_16 : Region.ready .any opsK (bitsB 95 464231111847111976452882835) = [2] := by kernel_rfl
theorem stK_19 : (bitsB 95 464231111847111976452882835).setIfInBounds 2 true = (bitsB 95 464231111847111976452882839) := by kernel_rfl
theorem rdK_17 : Region.ready .any opsK (bitsB 95 464231111847111976452882839) = [3, 5] := by kernel_rfl
theorem frK_11 : Region.free .any opsK (bitsB 95 464231111847111976452882839) 3 = true := by kernel_rfl
theorem stK_20 : (bitsB 95 464231111847111976452882839).setIfInBounds 3 true = (bitsB 95 464231111847111976452882847) := by kernel_rfl
theorem rdK_18 : Region.ready .any opsK (bitsB 95 464231111847111976452882833) = [1] := by kernel_rfl
theorem stK_21 : (bitsB 95 464231111847111976452882833).setIfInBounds 1 true = (bitsB 95 464231111847111976452882835) := by kernel_rfl
theorem rdK_19 : Region.ready .any opsK (bitsB 95 464231111847111976452882832) = [0] := by kernel_rfl
theorem stK_22 : (bitsB 95 464231111847111976452882832).setIfInBounds 0 true = (bitsB 95 464231111847111976452882833) := by kernel_rfl
theorem rdK_20 : Region.ready .any opsK (bitsB 95 464231111847111976452882879) = [6, 9] := by kernel_rfl
theorem frK_12 : Region.free .any opsK (bitsB 95 464231111847111976452882879) 6 = true := by kernel_rfl
theorem stK_23 : (bitsB 95 464231111847111976452882879).setIfInBounds 6 true = (bitsB 95 464231111847111976452882943) := by kernel_rfl
theorem rdK_21 : Region.ready .any opsK (bitsB 95 464231111847111976452882943) = [9] := by kernel_rfl
theorem stK_24 : (bitsB 95 464231111847111976452882943).setIfInBounds 9 true = (bitsB 95 464231111847111976452883455) := by kernel_rfl
theorem rdK_22 : Region.ready .any opsK (bitsB 95 464231111847111976452883455) = [10] := by kernel_rfl
theorem stK_25 : (bitsB 95 464231111847111976452883455).setIfInBounds 10 true = (bitsB 95 464231111847111976452884479) := by kernel_rfl
theorem rdK_23 : Region.ready .any opsK (bitsB 95 464231111847111976452884479) = [11] := by kernel_rfl
theorem stK_26 : (bitsB 95 464231111847111976452884479).setIfInBounds 11 true = (bitsB 95 464231111847111976452886527) := by kernel_rfl
theorem rdK_24 : Region.ready .any opsK (bitsB 95 464231111847111976452886527) = [12] := by kernel_rfl
theorem stK_27 : (bitsB 95 464231111847111976452886527).setIfInBounds 12 true = (bitsB 95 464231111847111976452890623) := by kernel_rfl
theorem rdK_25 : Region.ready .any opsK (bitsB 95 464231111847111976452890623) = [13] := by kernel_rfl
theorem stK_28 : (bitsB 95 464231111847111976452890623).setIfInBounds 13 true = (bitsB 95 464231111847111976452898815) := by kernel_rfl
theorem rdK_26 : Region.ready .any opsK (bitsB 95 464231111847111976452898815) = [14] := by kernel_rfl
theorem stK_29 : (bitsB 95 464231111847111976452898815).setIfInBounds 14 true = (bitsB 95 464231111847111976452915199) := by kernel_rfl
theorem rdK_27 : Region.ready .any opsK (bitsB 95 464231111847111976452915199) = [15, 22] := by kernel_rfl
theorem frK_13 : Region.free .any opsK (bitsB 95 464231111847111976452915199) 15 = true := by kernel_rfl
theorem stK_30 : (bitsB 95 464231111847111976452915199).setIfInBounds 15 true = (bitsB 95 464231111847111976452947967) := by kernel_rfl
theorem rdK_28 : Region.ready .any opsK (bitsB 95 464231111847111976452947967) = [16, 22] := by kernel_rfl
theorem frK_14 : Region.free .any opsK (bitsB 95 464231111847111976452947967) 16 = true := by kernel_rfl
theorem stK_31 : (bitsB 95 464231111847111976452947967).setIfInBounds 16 true = (bitsB 95 464231111847111976453013503) := by kernel_rfl
theorem rdK_29 : Region.ready .any opsK (bitsB 95 464231111847111976453013503) = [17, 22] := by kernel_rfl
theorem frK_15 : Region.free .any opsK (bitsB 95 464231111847111976453013503) 17 = true := by kernel_rfl
theorem stK_32 : (bitsB 95 464231111847111976453013503).setIfInBounds 17 true = (bitsB 95 464231111847111976453144575) := by kernel_rfl
theorem rdK_30 : Region.ready .any opsK (bitsB 95 464231111847111976453144575) = [18, 22] := by kernel_rfl
theorem frK_16 : Region.free .any opsK (bitsB 95 464231111847111976453144575) 18 = true := by kernel_rfl
theorem stK_33 : (bitsB 95 464231111847111976453144575).setIfInBounds 18 true = (bitsB 95 464231111847111976453406719) := by kernel_rfl
theorem rdK_31 : Region.ready .any opsK (bitsB 95 464231111847111976453406719) = [19, 22] := by kernel_rfl
theorem frK_17 : Region.free .any opsK (bitsB 95 464231111847111976453406719) 19 = true := by kernel_rfl
theorem stK_34 : (bitsB 95 464231111847111976453406719).setIfInBounds 19 true = (bitsB 95 464231111847111976453931007) := by kernel_rfl
theorem rdK_32 : Region.ready .any opsK (bitsB 95 464231111847111976453931007) = [22] := by kernel_rfl
theorem stK_35 : (bitsB 95 464231111847111976453931007).setIfInBounds 22 true = (bitsB 95 464231111847111976458125311) := by kernel_rfl
theorem rdK_33 : Region.ready .any opsK (bitsB 95 464231111847111976458125311) = [23] := by kernel_rfl
theorem stK_36 : (bitsB 95 464231111847111976458125311).setIfInBounds 23 true = (bitsB 95 464231111847111976466513919) := by kernel_rfl
theorem rdK_34 : Region.ready .any opsK (bitsB 95 464231111847111976466513919) = [24] := by kernel_rfl
theorem stK_37 : (bitsB 95 464231111847111976466513919).setIfInBounds 24 true = (bitsB 95 464231111847111976483291135) := by kernel_rfl
theorem rdK_35 : Region.ready .any opsK (bitsB 95 464231111847111976483291135) = [25] := by kernel_rfl
theorem stK_38 : (bitsB 95 464231111847111976483291135).setIfInBounds 25 true = (bitsB 95 464231111847111976516845567) := by kernel_rfl
theorem rdK_36 : Region.ready .any opsK (bitsB 95 464231111847111976516845567) = [26] := by kernel_rfl
theorem stK_39 : (bitsB 95 464231111847111976516845567).setIfInBounds 26 true = (bitsB 95 464231111847111976583954431) := by kernel_rfl
theorem rdK_37 : Region.ready .any opsK (bitsB 95 464231111847111976583954431) = [27] := by kernel_rfl
theorem stK_40 : (bitsB 95 464231111847111976583954431).setIfInBounds 27 true = (bitsB 95 464231111847111976718172159) := by kernel_rfl
theorem rdK_38 : Region.ready .any opsK (bitsB 95 464231111847111976718172159) = [28] := by kernel_rfl
theorem stK_41 : (bitsB 95 464231111847111976718172159).setIfInBounds 28 true = (bitsB 95 464231111847111976986607615) := by kernel_rfl
theorem rdK_39 : Region.ready .any opsK (bitsB 95 464231111847111976986607615) = [29] := by kernel_rfl
theorem stK_42 : (bitsB 95 464231111847111976986607615).setIfInBounds 29 true = (bitsB 95 464231111847111977523478527) := by kernel_rfl
theorem rdK_40 : Region.ready .any opsK (bitsB 95 464231111847111977523478527) = [30] := by kernel_rfl
theorem stK_43 : (bitsB 95 464231111847111977523478527).setIfInBounds 30 true = (bitsB 95 464231111847111978597220351) := by kernel_rfl
theorem rdK_41 : Region.ready .any opsK (bitsB 95 464231111847111978597220351) = [31] := by kernel_rfl
theorem stK_44 : (bitsB 95 464231111847111978597220351).setIfInBounds 31 true = (bitsB 95 464231111847111980744703999) := by kernel_rfl
theorem rdK_42 : Region.ready .any opsK (bitsB 95 464231111847111980744703999) = [32] := by kernel_rfl
theorem stK_45 : (bitsB 95 464231111847111980744703999).setIfInBounds 32 true = (bitsB 95 464231111847111985039671295) := by kernel_rfl
theorem rdK_43 : Region.ready .any opsK (bitsB 95 464231111847111985039671295) = [33] := by kernel_rfl
theorem stK_46 : (bitsB 95 464231111847111985039671295).setIfInBounds 33 true = (bitsB 95 464231111847111993629605887) := by kernel_rfl
theorem rdK_44 : Region.ready .any opsK (bitsB 95 464231111847111993629605887) = [34] := by kernel_rfl
theorem stK_47 : (bitsB 95 464231111847111993629605887).setIfInBounds 34 true = (bitsB 95 464231111847112010809475071) := by kernel_rfl
theorem rdK_45 : Region.ready .any opsK (bitsB 95 464231111847112010809475071) = [35] := by kernel_rfl
theorem stK_48 : (bitsB 95 464231111847112010809475071).setIfInBounds 35 true = (bitsB 95 464231111847112045169213439) := by kernel_rfl
theorem rdK_46 : Region.ready .any opsK (bitsB 95 464231111847112045169213439) = [36] := by kernel_rfl
theorem stK_49 : (bitsB 95 464231111847112045169213439).setIfInBounds 36 true = (bitsB 95 464231111847112113888690175) := by kernel_rfl
theorem rdK_47 : Region.ready .any opsK (bitsB 95 464231111847112113888690175) = [37] := by kernel_rfl
theorem stK_50 : (bitsB 95 464231111847112113888690175).setIfInBounds 37 true = (bitsB 95 464231111847112251327643647) := by kernel_rfl
theorem rdK_48 : Region.ready .any opsK (bitsB 95 464231111847112251327643647) = [38] := by kernel_rfl
theorem stK_51 : (bitsB 95 464231111847112251327643647).setIfInBounds 38 true = (bitsB 95 464231111847112526205550591) := by kernel_rfl
theorem rdK_49 : Region.ready .any opsK (bitsB 95 464231111847112526205550591) = [39] := by kernel_rfl
theorem stK_52 : (bitsB 95 464231111847112526205550591).setIfInBounds 39 true = (bitsB 95 464231111847113075961364479) := by kernel_rfl
theorem rdK_50 : Region.ready .any opsK (bitsB 95 464231111847113075961364479) = [40] := by kernel_rfl
theorem stK_53 : (bitsB 95 464231111847113075961364479).setIfInBounds 40 true = (bitsB 95 464231111847114175472992255) := by kernel_rfl
theorem rdK_51 : Region.ready .any opsK (bitsB 95 464231111847114175472992255) = [41] := by kernel_rfl
theorem stK_54 : (bitsB 95 464231111847114175472992255).setIfInBounds 41 true = (bitsB 95 464231111847116374496247807) := by kernel_rfl
theorem rdK_52 : Region.ready .any opsK (bitsB 95 464231111847116374496247807) = [42] := by kernel_rfl
theorem stK_55 : (bitsB 95 464231111847116374496247807).setIfInBounds 42 true = (bitsB 95 464231111847120772542758911) := by kernel_rfl
theorem rdK_53 : Region.ready .any opsK (bitsB 95 464231111847120772542758911) = [43] := by kernel_rfl
theorem stK_56 : (bitsB 95 464231111847120772542758911).setIfInBounds 43 true = (bitsB 95 464231111847129568635781119) := by kernel_rfl
theorem rdK_54 : Region.ready .any opsK (bitsB 95 464231111847129568635781119) = [44] := by kernel_rfl
theorem stK_57 : (bitsB 95 464231111847129568635781119).setIfInBounds 44 true = (bitsB 95 464231111847147160821825535) := by kernel_rfl
theorem rdK_55 : Region.ready .any opsK (bitsB 95 464231111847147160821825535) = [45] := by kernel_rfl
theorem stK_58 : (bitsB 95 464231111847147160821825535).setIfInBounds 45 true = (bitsB 95 464231111847182345193914367) := by kernel_rfl
theorem rdK_56 : Region.ready .any opsK (bitsB 95 464231111847182345193914367) = [46] := by kernel_rfl
theorem stK_59 : (bitsB 95 464231111847182345193914367).setIfInBounds 46 true = (bitsB 95 464231111847252713938092031) := by kernel_rfl
theorem rdK_57 : Region.ready .any opsK (bitsB 95 464231111847252713938092031) = [47] := by kernel_rfl
theorem stK_60 : (bitsB 95 464231111847252713938092031).setIfInBounds 47 true = (bitsB 95 464231111847393451426447359) := by kernel_rfl
theorem rdK_58 : Region.ready .any opsK (bitsB 95 464231111847393451426447359) = [48] := by kernel_rfl
theorem stK_61 : (bitsB 95 464231111847393451426447359).setIfInBounds 48 true = (bitsB 95 464231111847674926403158015) := by kernel_rfl
theorem rdK_59 : Region.ready .any opsK (bitsB 95 464231111847674926403158015) = [49] := by kernel_rfl
theorem stK_62 : (bitsB 95 464231111847674926403158015).setIfInBounds 49 true = (bitsB 95 464231111848237876356579327) := by kernel_rfl
theorem rdK_60 : Region.ready .any opsK (bitsB 95 464231111848237876356579327) = [50] := by kernel_rfl
theorem stK_63 : (bitsB 95 464231111848237876356579327).setIfInBounds 50 true = (bitsB 95 464231111849363776263421951) := by kernel_rfl
theorem rdK_61 : Region.ready .any opsK (bitsB 95 464231111849363776263421951) = [51] := by kernel_rfl
theorem stK_64 : (bitsB 95 464231111849363776263421951).setIfInBounds 51 true = (bitsB 95 464231111851615576077107199) := by kernel_rfl
theorem rdK_62 : Region.ready .any opsK (bitsB 95 464231111851615576077107199) = [52] := by kernel_rfl
theorem stK_65 : (bitsB 95 464231111851615576077107199).setIfInBounds 52 true = (bitsB 95 464231111856119175704477695) := by kernel_rfl
theorem rdK_63 : Region.ready .any opsK (bitsB 95 464231111856119175704477695) = [53] := by kernel_rfl
theorem stK_66 : (bitsB 95 464231111856119175704477695).setIfInBounds 53 true = (bitsB 95 464231111865126374959218687) := by kernel_rfl
theorem rdK_64 : Region.ready .any opsK (bitsB 95 464231111865126374959218687) = [54] := by kernel_rfl
theorem stK_67 : (bitsB 95 464231111865126374959218687).setIfInBounds 54 true = (bitsB 95 464231111883140773468700671) := by kernel_rfl
theorem rdK_65 : Region.ready .any opsK (bitsB 95 464231111883140773468700671) = [55] := by kernel_rfl
theorem stK_68 : (bitsB 95 464231111883140773468700671).setIfInBounds 55 true = (bitsB 95 464231111919169570487664639) := by kernel_rfl
theorem rdK_66 : Region.ready .any opsK (bitsB 95 464231111919169570487664639) = [56, 66] := by kernel_rfl
theorem frK_18 : Region.free .any opsK (bitsB 95 464231111919169570487664639) 56 = true := by kernel_rfl
theorem stK_69 : (bitsB 95 464231111919169570487664639).setIfInBounds 56 true = (bitsB 95 464231111991227164525592575) := by kernel_rfl
theorem rdK_67 : Region.ready .any opsK (bitsB 95 464231111991227164525592575) = [57, 66] := by kernel_rfl
theorem frK_19 : Region.free .any opsK (bitsB 95 464231111991227164525592575) 57 = true := by kernel_rfl
theorem stK_70 : (bitsB 95 464231111991227164525592575).setIfInBounds 57 true = (bitsB 95 464231112135342352601448447) := by kernel_rfl
theorem rdK_68 : Region.ready .any opsK (bitsB 95 464231112135342352601448447) = [58, 66] := by kernel_rfl
theorem frK_20 : Region.free .any opsK (bitsB 95 464231112135342352601448447) 58 = true := by kernel_rfl
theorem stK_71 : (bitsB 95 464231112135342352601448447).setIfInBounds 58 true = (bitsB 95 464231112423572728753160191) := by kernel_rfl
theorem rdK_69 : Region.ready .any opsK (bitsB 95 464231112423572728753160191) = [59, 66] := by kernel_rfl
theorem frK_21 : Region.free .any opsK (bitsB 95 464231112423572728753160191) 59 = true := by kernel_rfl
theorem stK_72 : (bitsB 95 464231112423572728753160191).setIfInBounds 59 true = (bitsB 95 464231113000033481056583679) := by kernel_rfl
theorem rdK_70 : Region.ready .any opsK (bitsB 95 464231113000033481056583679) = [60, 66] := by kernel_rfl
theorem frK_22 : Region.free .any opsK (bitsB 95 464231113000033481056583679) 60 = true := by kernel_rfl
theorem stK_73 : (bitsB 95 464231113000033481056583679).setIfInBounds 60 true = (bitsB 95 464231114152954985663430655) := by kernel_rfl
theorem rdK_71 : Region.ready .any opsK (bitsB 95 464231114152954985663430655) = [61, 66] := by kernel_rfl
theorem frK_23 : Region.free .any opsK (bitsB 95 464231114152954985663430655) 61 = true := by kernel_rfl
theorem stK_74 : (bitsB 95 464231114152954985663430655).setIfInBounds 61 true = (bitsB 95 464231116458797994877124607) := by kernel_rfl
theorem rdK_72 : Region.ready .any opsK (bitsB 95 464231116458797994877124607) = [62, 66] := by kernel_rfl
theorem frK_24 : Region.free .any opsK (bitsB 95 464231116458797994877124607) 62 = true := by kernel_rfl
theorem stK_75 : (bitsB 95 464231116458797994877124607).setIfInBounds 62 true = (bitsB 95 464231121070484013304512511) := by kernel_rfl
theorem rdK_73 : Region.ready .any opsK (bitsB 95 464231121070484013304512511) = [63, 66] := by kernel_rfl
theorem frK_25 : Region.free .any opsK (bitsB 95 464231121070484013304512511) 63 = true := by kernel_rfl
theorem stK_76 : (bitsB 95 464231121070484013304512511).setIfInBounds 63 true = (bitsB 95 464231130293856050159288319) := by kernel_rfl
theorem rdK_74 : Region.ready .any opsK (bitsB 95 464231130293856050159288319) = [66] := by kernel_rfl
theorem stK_77 : (bitsB 95 464231130293856050159288319).setIfInBounds 66 true = (bitsB 95 464231204080832344997494783) := by kernel_rfl
theorem rdK_75 : Region.ready .any opsK (bitsB 95 464231204080832344997494783) = [67, 72] := by kernel_rfl
theorem frK_26 : Region.free .any opsK (bitsB 95 464231204080832344997494783) 67 = true := by kernel_rfl
theorem stK_78 : (bitsB 95 464231204080832344997494783).setIfInBounds 67 true = (bitsB 95 464231351654784934673907711) := by kernel_rfl
theorem rdK_76 : Region.ready .any opsK (bitsB 95 464231351654784934673907711) = [68, 72] := by kernel_rfl
theorem frK_27 : Region.free .any opsK (bitsB 95 464231351654784934673907711) 68 = true := by kernel_rfl
theorem stK_79 : (bitsB 95 464231351654784934673907711).setIfInBounds 68 true = (bitsB 95 464231646802690114026733567) := by kernel_rfl
theorem rdK_77 : Region.ready .any opsK (bitsB 95 464231646802690114026733567) = [69, 72] := by kernel_rfl
theorem frK_28 : Region.free .any opsK (bitsB 95 464231646802690114026733567) 69 = true := by kernel_rfl
theorem stK_80 : (bitsB 95 464231646802690114026733567).setIfInBounds 69 true = (bitsB 95 464232237098500472732385279) := by kernel_rfl
theorem rdK_78 : Region.ready .any opsK (bitsB 95 464232237098500472732385279) = [72] := by kernel_rfl
theorem stK_81 : (bitsB 95 464232237098500472732385279).setIfInBounds 72 true = (bitsB 95 464236959464983342377598975) := by kernel_rfl
theorem rdK_79 : Region.ready .any opsK (bitsB 95 464236959464983342377598975) = [73] := by kernel_rfl
theorem stK_82 : (bitsB 95 464236959464983342377598975).setIfInBounds 73 true = (bitsB 95 464246404197949081668026367) := by kernel_rfl
theorem rdK_80 : Region.ready .any opsK (bitsB 95 464246404197949081668026367) = [74] := by kernel_rfl
theorem stK_83 : (bitsB 95 464246404197949081668026367).setIfInBounds 74 true = (bitsB 95 464265293663880560248881151) := by kernel_rfl
theorem rdK_81 : Region.ready .any opsK (bitsB 95 464265293663880560248881151) = [75] := by kernel_rfl
theorem stK_84 : (bitsB 95 464265293663880560248881151).setIfInBounds 75 true = (bitsB 95 464303072595743517410590719) := by kernel_rfl
theorem rdK_82 : Region.ready .any opsK (bitsB 95 464303072595743517410590719) = [76] := by kernel_rfl
theorem stK_85 : (bitsB 95 464303072595743517410590719).setIfInBounds 76 true = (bitsB 95 464378630459469431734009855) := by kernel_rfl
theorem rdK_83 : Region.ready .any opsK (bitsB 95 464378630459469431734009855) = [77] := by kernel_rfl
theorem stK_86 : (bitsB 95 464378630459469431734009855).setIfInBounds 77 true = (bitsB 95 464529746186921260380848127) := by kernel_rfl
theorem rdK_84 : Region.ready .any opsK (bitsB 95 464529746186921260380848127) = [78, 83, 89] := by kernel_rfl
theorem frK_29 : Region.free .any opsK (bitsB 95 464529746186921260380848127) 89 = true := by kernel_rfl
theorem stK_87 : (bitsB 95 464529746186921260380848127).setIfInBounds 89 true = (bitsB 95 1083499765829611397830410239) := by kernel_rfl
theorem rdK_85 : Region.ready .any opsK (bitsB 95 1083499765829611397830410239) = [78, 83, 90] := by kernel_rfl
theorem frK_30 : Region.free .any opsK (bitsB 95 1083499765829611397830410239) 90 = true := by kernel_rfl
theorem stK_88 : (bitsB 95 1083499765829611397830410239).setIfInBounds 90 true = (bitsB 95 2321439805114991672729534463) := by kernel_rfl
theorem rdK_86 : Region.ready .any opsK (bitsB 95 2321439805114991672729534463) = [78, 83, 91] := by kernel_rfl
theorem frK_31 : Region.free .any opsK (bitsB 95 2321439805114991672729534463) 91 = true := by kernel_rfl
theorem stK_89 : (bitsB 95 2321439805114991672729534463).setIfInBounds 91 true = (bitsB 95 4797319883685752222527782911) := by kernel_rfl
theorem rdK_87 : Region.ready .any opsK (bitsB 95 4797319883685752222527782911) = [78, 83, 92] := by kernel_rfl
theorem frK_32 : Region.free .any opsK (bitsB 95 4797319883685752222527782911) 92 = true := by kernel_rfl
theorem stK_90 : (bitsB 95 4797319883685752222527782911).setIfInBounds 92 true = (bitsB 95 9749080040827273322124279807) := by kernel_rfl
theorem rdK_88 : Region.ready .any opsK (bitsB 95 9749080040827273322124279807) = [78, 83] := by kernel_rfl
theorem frK_33 : Region.free .any opsK (bitsB 95 9749080040827273322124279807) 78 = true := by kernel_rfl
theorem stK_91 : (bitsB 95 9749080040827273322124279807).setIfInBounds 78 true = (bitsB 95 9749382272282176979417956351) := by kernel_rfl
theorem rdK_89 : Region.ready .any opsK (bitsB 95 9749382272282176979417956351) = [79, 83] := by kernel_rfl
theorem frK_34 : Region.free .any opsK (bitsB 95 9749382272282176979417956351) 79 = true := by kernel_rfl
theorem stK_92 : (bitsB 95 9749382272282176979417956351).setIfInBounds 79 true = (bitsB 95 9749986735191984294005309439) := by kernel_rfl
theorem rdK_90 : Region.ready .any opsK (bitsB 95 9749986735191984294005309439) = [80, 83] := by kernel_rfl
theorem frK_35 : Region.free .any opsK (bitsB 95 9749986735191984294005309439) 80 = true := by kernel_rfl
theorem stK_93 : (bitsB 95 9749986735191984294005309439).setIfInBounds 80 true = (bitsB 95 9751195661011598923180015615) := by kernel_rfl
theorem rdK_91 : Region.ready .any opsK (bitsB 95 9751195661011598923180015615) = [81, 83] := by kernel_rfl
theorem frK_36 : Region.free .any opsK (bitsB 95 9751195661011598923180015615) 81 = true := by kernel_rfl
theorem stK_94 : (bitsB 95 9751195661011598923180015615).setIfInBounds 81 true = (bitsB 95 9753613512650828181529427967) := by kernel_rfl
theorem rdK_92 : Region.ready .any opsK (bitsB 95 9753613512650828181529427967) = [82, 83] := by kernel_rfl
theorem frK_37 : Region.free .any opsK (bitsB 95 9753613512650828181529427967) 82 = true := by kernel_rfl
theorem stK_95 : (bitsB 95 9753613512650828181529427967).setIfInBounds 82 true = (bitsB 95 9758449215929286698228252671) := by kernel_rfl
theorem rdK_93 : Region.ready .any opsK (bitsB 95 9758449215929286698228252671) = [83] := by kernel_rfl
theorem stK_96 : (bitsB 95 9758449215929286698228252671).setIfInBounds 83 true = (bitsB 95 9768120622486203731625902079) := by kernel_rfl
theorem rdK_94 : Region.ready .any opsK (bitsB 95 9768120622486203731625902079) = [84] := by kernel_rfl
theorem stK_97 : (bitsB 95 9768120622486203731625902079).setIfInBounds 84 true = (bitsB 95 9787463435600037798421200895) := by kernel_rfl
theorem rdK_95 : Region.ready .any opsK (bitsB 95 9787463435600037798421200895) = [85] := by kernel_rfl
theorem stK_98 : (bitsB 95 9787463435600037798421200895).setIfInBounds 85 true = (bitsB 95 9826149061827705932011798527) := by kernel_rfl
theorem rdK_96 : Region.ready .any opsK (bitsB 95 9826149061827705932011798527) = [86] := by kernel_rfl
theorem stK_99 : (bitsB 95 9826149061827705932011798527).setIfInBounds 86 true = (bitsB 95 9903520314283042199192993791) := by kernel_rfl
theorem rdK_97 : Region.ready .any opsK (bitsB 95 9903520314283042199192993791) = [93] := by kernel_rfl
theorem stK_100 : (bitsB 95 9903520314283042199192993791).setIfInBounds 93 true = (bitsB 95 19807040628566084398385987583) := by kernel_rfl
theorem rdK_98 : Region.ready .any opsK (bitsB 95 19807040628566084398385987583) = [94] := by kernel_rfl
theorem stK_101 : (bitsB 95 19807040628566084398385987583).setIfInBounds 94 true = (bitsB 95 39614081257132168796771975167) := by kernel_rfl
theorem rdK_99 : Region.ready .any opsK (bitsB 95 39614081257132168796771975167) = [] := by kernel_rfl
end Go.Proofs.Ytjlhajnficneoaa
