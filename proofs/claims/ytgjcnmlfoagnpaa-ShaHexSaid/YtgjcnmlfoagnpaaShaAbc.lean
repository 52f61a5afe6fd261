/- SHA-256: the sum of "abc". -/
import Derived.Test.YtgjcnmlfoagnpaaShaH
namespace Go.Proofs.Ytgjcnmlfoagnpaa
open Go.RowKit

def abcB : List UInt8 := [97, 98, 99, 128, 0, 0, 0, 0, 0, 0, 0, 0, 0, 0, 0, 0, 0, 0, 0, 0, 0, 0, 0, 0, 0, 0, 0, 0, 0, 0, 0, 0, 0, 0, 0, 0, 0, 0, 0, 0, 0, 0, 0, 0, 0, 0, 0, 0, 0, 0, 0, 0, 0, 0, 0, 0, 0, 0, 0, 0, 0, 0, 0, 24]
theorem abc_pad : padB [97, 98, 99] = abcB := by decide +kernel
theorem abcW0 : Wf abcB 0 = 1633837952 := by rw [Wf, dif_pos (by omega)]; decide +kernel
theorem abcW1 : Wf abcB 1 = 0 := by rw [Wf, dif_pos (by omega)]; decide +kernel
theorem abcW2 : Wf abcB 2 = 0 := by rw [Wf, dif_pos (by omega)]; decide +kernel
theorem abcW3 : Wf abcB 3 = 0 := by rw [Wf, dif_pos (by omega)]; decide +kernel
theorem abcW4 : Wf abcB 4 = 0 := by rw [Wf, dif_pos (by omega)]; decide +kernel
theorem abcW5 : Wf abcB 5 = 0 := by rw [Wf, dif_pos (by omega)]; decide +kernel
theorem abcW6 : Wf abcB 6 = 0 := by rw [Wf, dif_pos (by omega)]; decide +kernel
theorem abcW7 : Wf abcB 7 = 0 := by rw [Wf, dif_pos (by omega)]; decide +kernel
theorem abcW8 : Wf abcB 8 = 0 := by rw [Wf, dif_pos (by omega)]; decide +kernel
theorem abcW9 : Wf abcB 9 = 0 := by rw [Wf, dif_pos (by omega)]; decide +kernel
theorem abcW10 : Wf abcB 10 = 0 := by rw [Wf, dif_pos (by omega)]; decide +kernel
theorem abcW11 : Wf abcB 11 = 0 := by rw [Wf, dif_pos (by omega)]; decide +kernel
theorem abcW12 : Wf abcB 12 = 0 := by rw [Wf, dif_pos (by omega)]; decide +kernel
theorem abcW13 : Wf abcB 13 = 0 := by rw [Wf, dif_pos (by omega)]; decide +kernel
theorem abcW14 : Wf abcB 14 = 0 := by rw [Wf, dif_pos (by omega)]; decide +kernel
theorem abcW15 : Wf abcB 15 = 24 := by rw [Wf, dif_pos (by omega)]; decide +kernel
theorem abcW16 : Wf abcB 16 = 1633837952 := by rw [Wf, dif_neg (by omega)]; rw [abcW0, abcW1, abcW9, abcW14]; decide +kernel
theorem abcW17 : Wf abcB 17 = 983040 := by rw [Wf, dif_neg (by omega)]; rw [abcW1, abcW2, abcW10, abcW15]; decide +kernel
theorem abcW18 : Wf abcB 18 = 2108187653 := by rw [Wf, dif_neg (by omega)]; rw [abcW2, abcW3, abcW11, abcW16]; decide +kernel
theorem abcW19 : Wf abcB 19 = 1610613702 := by rw [Wf, dif_neg (by omega)]; rw [abcW3, abcW4, abcW12, abcW17]; decide +kernel
theorem abcW20 : Wf abcB 20 = 1050508152 := by rw [Wf, dif_neg (by omega)]; rw [abcW4, abcW5, abcW13, abcW18]; decide +kernel
theorem abcW21 : Wf abcB 21 = 25426944 := by rw [Wf, dif_neg (by omega)]; rw [abcW5, abcW6, abcW14, abcW19]; decide +kernel
theorem abcW22 : Wf abcB 22 = 316456923 := by rw [Wf, dif_neg (by omega)]; rw [abcW6, abcW7, abcW15, abcW20]; decide +kernel
theorem abcW23 : Wf abcB 23 = 3806512014 := by rw [Wf, dif_neg (by omega)]; rw [abcW7, abcW8, abcW16, abcW21]; decide +kernel
theorem abcW24 : Wf abcB 24 = 3357629466 := by rw [Wf, dif_neg (by omega)]; rw [abcW8, abcW9, abcW17, abcW22]; decide +kernel
theorem abcW25 : Wf abcB 25 = 3073800610 := by rw [Wf, dif_neg (by omega)]; rw [abcW9, abcW10, abcW18, abcW23]; decide +kernel
theorem abcW26 : Wf abcB 26 = 3854317833 := by rw [Wf, dif_neg (by omega)]; rw [abcW10, abcW11, abcW19, abcW24]; decide +kernel
theorem abcW27 : Wf abcB 27 = 845560923 := by rw [Wf, dif_neg (by omega)]; rw [abcW11, abcW12, abcW20, abcW25]; decide +kernel
theorem abcW28 : Wf abcB 28 = 2636160359 := by rw [Wf, dif_neg (by omega)]; rw [abcW12, abcW13, abcW21, abcW26]; decide +kernel
theorem abcW29 : Wf abcB 29 = 3968280267 := by rw [Wf, dif_neg (by omega)]; rw [abcW13, abcW14, abcW22, abcW27]; decide +kernel
theorem abcW30 : Wf abcB 30 = 1881225380 := by rw [Wf, dif_neg (by omega)]; rw [abcW14, abcW15, abcW23, abcW28]; decide +kernel
theorem abcW31 : Wf abcB 31 = 3552024379 := by rw [Wf, dif_neg (by omega)]; rw [abcW15, abcW16, abcW24, abcW29]; decide +kernel
theorem abcW32 : Wf abcB 32 = 2482346367 := by rw [Wf, dif_neg (by omega)]; rw [abcW16, abcW17, abcW25, abcW30]; decide +kernel
theorem abcW33 : Wf abcB 33 = 996719219 := by rw [Wf, dif_neg (by omega)]; rw [abcW17, abcW18, abcW26, abcW31]; decide +kernel
theorem abcW34 : Wf abcB 34 = 2952069057 := by rw [Wf, dif_neg (by omega)]; rw [abcW18, abcW19, abcW27, abcW32]; decide +kernel
theorem abcW35 : Wf abcB 35 = 4043988066 := by rw [Wf, dif_neg (by omega)]; rw [abcW19, abcW20, abcW28, abcW33]; decide +kernel
theorem abcW36 : Wf abcB 36 = 176896406 := by rw [Wf, dif_neg (by omega)]; rw [abcW20, abcW21, abcW29, abcW34]; decide +kernel
theorem abcW37 : Wf abcB 37 = 1924104970 := by rw [Wf, dif_neg (by omega)]; rw [abcW21, abcW22, abcW30, abcW35]; decide +kernel
theorem abcW38 : Wf abcB 38 = 2483675966 := by rw [Wf, dif_neg (by omega)]; rw [abcW22, abcW23, abcW31, abcW36]; decide +kernel
theorem abcW39 : Wf abcB 39 = 610538786 := by rw [Wf, dif_neg (by omega)]; rw [abcW23, abcW24, abcW32, abcW37]; decide +kernel
theorem abcW40 : Wf abcB 40 = 2672279444 := by rw [Wf, dif_neg (by omega)]; rw [abcW24, abcW25, abcW33, abcW38]; decide +kernel
theorem abcW41 : Wf abcB 41 = 4037431130 := by rw [Wf, dif_neg (by omega)]; rw [abcW25, abcW26, abcW34, abcW39]; decide +kernel
theorem abcW42 : Wf abcB 42 = 1042573945 := by rw [Wf, dif_neg (by omega)]; rw [abcW26, abcW27, abcW35, abcW40]; decide +kernel
theorem abcW43 : Wf abcB 43 = 657669027 := by rw [Wf, dif_neg (by omega)]; rw [abcW27, abcW28, abcW36, abcW41]; decide +kernel
theorem abcW44 : Wf abcB 44 = 206005234 := by rw [Wf, dif_neg (by omega)]; rw [abcW28, abcW29, abcW37, abcW42]; decide +kernel
theorem abcW45 : Wf abcB 45 = 2215296807 := by rw [Wf, dif_neg (by omega)]; rw [abcW29, abcW30, abcW38, abcW43]; decide +kernel
theorem abcW46 : Wf abcB 46 = 2049510749 := by rw [Wf, dif_neg (by omega)]; rw [abcW30, abcW31, abcW39, abcW44]; decide +kernel
theorem abcW47 : Wf abcB 47 = 106709978 := by rw [Wf, dif_neg (by omega)]; rw [abcW31, abcW32, abcW40, abcW45]; decide +kernel
theorem abcW48 : Wf abcB 48 = 4215179723 := by rw [Wf, dif_neg (by omega)]; rw [abcW32, abcW33, abcW41, abcW46]; decide +kernel
theorem abcW49 : Wf abcB 49 = 3430291419 := by rw [Wf, dif_neg (by omega)]; rw [abcW33, abcW34, abcW42, abcW47]; decide +kernel
theorem abcW50 : Wf abcB 50 = 3118885940 := by rw [Wf, dif_neg (by omega)]; rw [abcW34, abcW35, abcW43, abcW48]; decide +kernel
theorem abcW51 : Wf abcB 51 = 2845390439 := by rw [Wf, dif_neg (by omega)]; rw [abcW35, abcW36, abcW44, abcW49]; decide +kernel
theorem abcW52 : Wf abcB 52 = 2226839261 := by rw [Wf, dif_neg (by omega)]; rw [abcW36, abcW37, abcW45, abcW50]; decide +kernel
theorem abcW53 : Wf abcB 53 = 3256115900 := by rw [Wf, dif_neg (by omega)]; rw [abcW37, abcW38, abcW46, abcW51]; decide +kernel
theorem abcW54 : Wf abcB 54 = 344409900 := by rw [Wf, dif_neg (by omega)]; rw [abcW38, abcW39, abcW47, abcW52]; decide +kernel
theorem abcW55 : Wf abcB 55 = 2987358873 := by rw [Wf, dif_neg (by omega)]; rw [abcW39, abcW40, abcW48, abcW53]; decide +kernel
theorem abcW56 : Wf abcB 56 = 4015503821 := by rw [Wf, dif_neg (by omega)]; rw [abcW40, abcW41, abcW49, abcW54]; decide +kernel
theorem abcW57 : Wf abcB 57 = 3957764664 := by rw [Wf, dif_neg (by omega)]; rw [abcW41, abcW42, abcW50, abcW55]; decide +kernel
theorem abcW58 : Wf abcB 58 = 2682456414 := by rw [Wf, dif_neg (by omega)]; rw [abcW42, abcW43, abcW51, abcW56]; decide +kernel
theorem abcW59 : Wf abcB 59 = 2025622859 := by rw [Wf, dif_neg (by omega)]; rw [abcW43, abcW44, abcW52, abcW57]; decide +kernel
theorem abcW60 : Wf abcB 60 = 2755645205 := by rw [Wf, dif_neg (by omega)]; rw [abcW44, abcW45, abcW53, abcW58]; decide +kernel
theorem abcW61 : Wf abcB 61 = 1720397816 := by rw [Wf, dif_neg (by omega)]; rw [abcW45, abcW46, abcW54, abcW59]; decide +kernel
theorem abcW62 : Wf abcB 62 = 4004225740 := by rw [Wf, dif_neg (by omega)]; rw [abcW46, abcW47, abcW55, abcW60]; decide +kernel
theorem abcW63 : Wf abcB 63 = 313650667 := by rw [Wf, dif_neg (by omega)]; rw [abcW47, abcW48, abcW56, abcW61]; decide +kernel
theorem abcR0 : rnds abcB H0 0 = ⟨1779033703, 3144134277, 1013904242, 2773480762, 1359893119, 2600822924, 528734635, 1541459225⟩ := rfl
theorem v8_ext {x y : V8} (h : x.l = y.l) : x = y := by cases x; cases y; simp [V8.l] at h; simp [h]
theorem abcR1 : rnds abcB H0 1 = ⟨1567288269, 1779033703, 3144134277, 1013904242, 4197074466, 1359893119, 2600822924, 528734635⟩ := by rw [rnds, abcR0, abcW0]; exact v8_ext (by decide +kernel)
theorem abcR2 : rnds abcB H0 2 = ⟨1516951981, 1567288269, 1779033703, 3144134277, 2026797449, 4197074466, 1359893119, 2600822924⟩ := by rw [rnds, abcR1, abcW1]; exact v8_ext (by decide +kernel)
theorem abcR3 : rnds abcB H0 3 = ⟨3368241063, 1516951981, 1567288269, 1779033703, 4180228587, 2026797449, 4197074466, 1359893119⟩ := by rw [rnds, abcR2, abcW2]; exact v8_ext (by decide +kernel)
theorem abcR4 : rnds abcB H0 4 = ⟨3578852966, 3368241063, 1516951981, 1567288269, 618661968, 4180228587, 2026797449, 4197074466⟩ := by rw [rnds, abcR3, abcW3]; exact v8_ext (by decide +kernel)
theorem abcR5 : rnds abcB H0 5 = ⟨71342698, 3578852966, 3368241063, 1516951981, 1135452741, 618661968, 4180228587, 2026797449⟩ := by rw [rnds, abcR4, abcW4]; exact v8_ext (by decide +kernel)
theorem abcR6 : rnds abcB H0 6 = ⟨725748213, 71342698, 3578852966, 3368241063, 1900175533, 1135452741, 618661968, 4180228587⟩ := by rw [rnds, abcR5, abcW5]; exact v8_ext (by decide +kernel)
theorem abcR7 : rnds abcB H0 7 = ⟨3842179968, 725748213, 71342698, 3578852966, 2603066369, 1900175533, 1135452741, 618661968⟩ := by rw [rnds, abcR6, abcW6]; exact v8_ext (by decide +kernel)
theorem abcR8 : rnds abcB H0 8 = ⟨2241887071, 3842179968, 725748213, 71342698, 207977081, 2603066369, 1900175533, 1135452741⟩ := by rw [rnds, abcR7, abcW7]; exact v8_ext (by decide +kernel)
theorem abcR9 : rnds abcB H0 9 = ⟨2382687417, 2241887071, 3842179968, 725748213, 852110732, 207977081, 2603066369, 1900175533⟩ := by rw [rnds, abcR8, abcW8]; exact v8_ext (by decide +kernel)
theorem abcR10 : rnds abcB H0 10 = ⟨2357671019, 2382687417, 2241887071, 3842179968, 482944406, 852110732, 207977081, 2603066369⟩ := by rw [rnds, abcR9, abcW9]; exact v8_ext (by decide +kernel)
theorem abcR11 : rnds abcB H0 11 = ⟨1201185780, 2357671019, 2382687417, 2241887071, 1131095016, 482944406, 852110732, 207977081⟩ := by rw [rnds, abcR10, abcW10]; exact v8_ext (by decide +kernel)
theorem abcR12 : rnds abcB H0 12 = ⟨4146054569, 1201185780, 2357671019, 2382687417, 2171590377, 1131095016, 482944406, 852110732⟩ := by rw [rnds, abcR11, abcW11]; exact v8_ext (by decide +kernel)
theorem abcR13 : rnds abcB H0 13 = ⟨2274437520, 4146054569, 1201185780, 2357671019, 509051416, 2171590377, 1131095016, 482944406⟩ := by rw [rnds, abcR12, abcW12]; exact v8_ext (by decide +kernel)
theorem abcR14 : rnds abcB H0 14 = ⟨3643992854, 2274437520, 4146054569, 1201185780, 1952073950, 509051416, 2171590377, 1131095016⟩ := by rw [rnds, abcR13, abcW13]; exact v8_ext (by decide +kernel)
theorem abcR15 : rnds abcB H0 15 = ⟨3227803614, 3643992854, 2274437520, 4146054569, 194179596, 1952073950, 509051416, 2171590377⟩ := by rw [rnds, abcR14, abcW14]; exact v8_ext (by decide +kernel)
theorem abcR16 : rnds abcB H0 16 = ⟨2969183118, 3227803614, 3643992854, 2274437520, 123276749, 194179596, 1952073950, 509051416⟩ := by rw [rnds, abcR15, abcW15]; exact v8_ext (by decide +kernel)
theorem abcR17 : rnds abcB H0 17 = ⟨567974555, 2969183118, 3227803614, 3643992854, 2150900380, 123276749, 194179596, 1952073950⟩ := by rw [rnds, abcR16, abcW16]; exact v8_ext (by decide +kernel)
theorem abcR18 : rnds abcB H0 18 = ⟨3271285201, 567974555, 2969183118, 3227803614, 2221859924, 2150900380, 123276749, 194179596⟩ := by rw [rnds, abcR17, abcW17]; exact v8_ext (by decide +kernel)
theorem abcR19 : rnds abcB H0 19 = ⟨4269243327, 3271285201, 567974555, 2969183118, 3431569761, 2221859924, 2150900380, 123276749⟩ := by rw [rnds, abcR18, abcW18]; exact v8_ext (by decide +kernel)
theorem abcR20 : rnds abcB H0 20 = ⟨3790736435, 4269243327, 3271285201, 567974555, 2959311225, 3431569761, 2221859924, 2150900380⟩ := by rw [rnds, abcR19, abcW19]; exact v8_ext (by decide +kernel)
theorem abcR21 : rnds abcB H0 21 = ⟨2647034723, 3790736435, 4269243327, 3271285201, 2329577776, 2959311225, 3431569761, 2221859924⟩ := by rw [rnds, abcR20, abcW20]; exact v8_ext (by decide +kernel)
theorem abcR22 : rnds abcB H0 22 = ⟨3261099373, 2647034723, 3790736435, 4269243327, 3777329520, 2329577776, 2959311225, 3431569761⟩ := by rw [rnds, abcR21, abcW21]; exact v8_ext (by decide +kernel)
theorem abcR23 : rnds abcB H0 23 = ⟨2812502591, 3261099373, 2647034723, 3790736435, 1240797514, 3777329520, 2329577776, 2959311225⟩ := by rw [rnds, abcR22, abcW22]; exact v8_ext (by decide +kernel)
theorem abcR24 : rnds abcB H0 24 = ⟨3319086477, 2812502591, 3261099373, 2647034723, 2856829767, 1240797514, 3777329520, 2329577776⟩ := by rw [rnds, abcR23, abcW23]; exact v8_ext (by decide +kernel)
theorem abcR25 : rnds abcB H0 25 = ⟨472655928, 3319086477, 2812502591, 3261099373, 673443729, 2856829767, 1240797514, 3777329520⟩ := by rw [rnds, abcR24, abcW24]; exact v8_ext (by decide +kernel)
theorem abcR26 : rnds abcB H0 26 = ⟨3454534525, 472655928, 3319086477, 2812502591, 339230094, 673443729, 2856829767, 1240797514⟩ := by rw [rnds, abcR25, abcW25]; exact v8_ext (by decide +kernel)
theorem abcR27 : rnds abcB H0 27 = ⟨3056518332, 3454534525, 472655928, 3319086477, 3343672598, 339230094, 673443729, 2856829767⟩ := by rw [rnds, abcR26, abcW26]; exact v8_ext (by decide +kernel)
theorem abcR28 : rnds abcB H0 28 = ⟨2010346792, 3056518332, 3454534525, 472655928, 3992961016, 3343672598, 339230094, 673443729⟩ := by rw [rnds, abcR27, abcW27]; exact v8_ext (by decide +kernel)
theorem abcR29 : rnds abcB H0 29 = ⟨909411017, 2010346792, 3056518332, 3454534525, 1628611511, 3992961016, 3343672598, 339230094⟩ := by rw [rnds, abcR28, abcW28]; exact v8_ext (by decide +kernel)
theorem abcR30 : rnds abcB H0 30 = ⟨2684750640, 909411017, 2010346792, 3056518332, 2917635127, 1628611511, 3992961016, 3343672598⟩ := by rw [rnds, abcR29, abcW29]; exact v8_ext (by decide +kernel)
theorem abcR31 : rnds abcB H0 31 = ⟨3935906338, 2684750640, 909411017, 2010346792, 17410874, 2917635127, 1628611511, 3992961016⟩ := by rw [rnds, abcR30, abcW30]; exact v8_ext (by decide +kernel)
theorem abcR32 : rnds abcB H0 32 = ⟨1941126133, 3935906338, 2684750640, 909411017, 3126399250, 17410874, 2917635127, 1628611511⟩ := by rw [rnds, abcR31, abcW31]; exact v8_ext (by decide +kernel)
theorem abcR33 : rnds abcB H0 33 = ⟨2564891911, 1941126133, 3935906338, 2684750640, 2631529974, 3126399250, 17410874, 2917635127⟩ := by rw [rnds, abcR32, abcW32]; exact v8_ext (by decide +kernel)
theorem abcR34 : rnds abcB H0 34 = ⟨4267724277, 2564891911, 1941126133, 3935906338, 1495571923, 2631529974, 3126399250, 17410874⟩ := by rw [rnds, abcR33, abcW33]; exact v8_ext (by decide +kernel)
theorem abcR35 : rnds abcB H0 35 = ⟨2846323596, 4267724277, 2564891911, 1941126133, 140458035, 1495571923, 2631529974, 3126399250⟩ := by rw [rnds, abcR34, abcW34]; exact v8_ext (by decide +kernel)
theorem abcR36 : rnds abcB H0 36 = ⟨1705037796, 2846323596, 4267724277, 2564891911, 4105175766, 140458035, 1495571923, 2631529974⟩ := by rw [rnds, abcR35, abcW35]; exact v8_ext (by decide +kernel)
theorem abcR37 : rnds abcB H0 37 = ⟨1101421745, 1705037796, 2846323596, 4267724277, 124953195, 4105175766, 140458035, 1495571923⟩ := by rw [rnds, abcR36, abcW36]; exact v8_ext (by decide +kernel)
theorem abcR38 : rnds abcB H0 38 = ⟨887035396, 1101421745, 1705037796, 2846323596, 2768741693, 124953195, 4105175766, 140458035⟩ := by rw [rnds, abcR37, abcW37]; exact v8_ext (by decide +kernel)
theorem abcR39 : rnds abcB H0 39 = ⟨1841658506, 887035396, 1101421745, 1705037796, 4034403272, 2768741693, 124953195, 4105175766⟩ := by rw [rnds, abcR38, abcW38]; exact v8_ext (by decide +kernel)
theorem abcR40 : rnds abcB H0 40 = ⟨2045405306, 1841658506, 887035396, 1101421745, 519815328, 4034403272, 2768741693, 124953195⟩ := by rw [rnds, abcR39, abcW39]; exact v8_ext (by decide +kernel)
theorem abcR41 : rnds abcB H0 41 = ⟨3597076326, 2045405306, 1841658506, 887035396, 641019235, 519815328, 4034403272, 2768741693⟩ := by rw [rnds, abcR40, abcW40]; exact v8_ext (by decide +kernel)
theorem abcR42 : rnds abcB H0 42 = ⟨3745932591, 3597076326, 2045405306, 1841658506, 2206934801, 641019235, 519815328, 4034403272⟩ := by rw [rnds, abcR41, abcW41]; exact v8_ext (by decide +kernel)
theorem abcR43 : rnds abcB H0 43 = ⟨397020670, 3745932591, 3597076326, 2045405306, 3737995029, 2206934801, 641019235, 519815328⟩ := by rw [rnds, abcR42, abcW42]; exact v8_ext (by decide +kernel)
theorem abcR44 : rnds abcB H0 44 = ⟨2638983059, 397020670, 3745932591, 3597076326, 4255271982, 3737995029, 2206934801, 641019235⟩ := by rw [rnds, abcR43, abcW43]; exact v8_ext (by decide +kernel)
theorem abcR45 : rnds abcB H0 45 = ⟨643991573, 2638983059, 397020670, 3745932591, 2819559920, 4255271982, 3737995029, 2206934801⟩ := by rw [rnds, abcR44, abcW44]; exact v8_ext (by decide +kernel)
theorem abcR46 : rnds abcB H0 46 = ⟨1923828625, 643991573, 2638983059, 397020670, 3077922209, 2819559920, 4255271982, 3737995029⟩ := by rw [rnds, abcR45, abcW45]; exact v8_ext (by decide +kernel)
theorem abcR47 : rnds abcB H0 47 = ⟨2706117808, 1923828625, 643991573, 2638983059, 3581645993, 3077922209, 2819559920, 4255271982⟩ := by rw [rnds, abcR46, abcW46]; exact v8_ext (by decide +kernel)
theorem abcR48 : rnds abcB H0 48 = ⟨1098003085, 2706117808, 1923828625, 643991573, 4274981830, 3581645993, 3077922209, 2819559920⟩ := by rw [rnds, abcR47, abcW47]; exact v8_ext (by decide +kernel)
theorem abcR49 : rnds abcB H0 49 = ⟨91585771, 1098003085, 2706117808, 1923828625, 3178315832, 4274981830, 3581645993, 3077922209⟩ := by rw [rnds, abcR48, abcW48]; exact v8_ext (by decide +kernel)
theorem abcR50 : rnds abcB H0 50 = ⟨4045142696, 91585771, 1098003085, 2706117808, 1851537676, 3178315832, 4274981830, 3581645993⟩ := by rw [rnds, abcR49, abcW49]; exact v8_ext (by decide +kernel)
theorem abcR51 : rnds abcB H0 51 = ⟨2047150241, 4045142696, 91585771, 1098003085, 1391578359, 1851537676, 3178315832, 4274981830⟩ := by rw [rnds, abcR50, abcW50]; exact v8_ext (by decide +kernel)
theorem abcR52 : rnds abcB H0 52 = ⟨2288941602, 2047150241, 4045142696, 91585771, 1227037726, 1391578359, 1851537676, 3178315832⟩ := by rw [rnds, abcR51, abcW51]; exact v8_ext (by decide +kernel)
theorem abcR53 : rnds abcB H0 53 = ⟨270520975, 2288941602, 2047150241, 4045142696, 1386118400, 1227037726, 1391578359, 1851537676⟩ := by rw [rnds, abcR52, abcW52]; exact v8_ext (by decide +kernel)
theorem abcR54 : rnds abcB H0 54 = ⟨4117770203, 270520975, 2288941602, 2047150241, 2672265155, 1386118400, 1227037726, 1391578359⟩ := by rw [rnds, abcR53, abcW53]; exact v8_ext (by decide +kernel)
theorem abcR55 : rnds abcB H0 55 = ⟨1053056219, 4117770203, 270520975, 2288941602, 3842906959, 2672265155, 1386118400, 1227037726⟩ := by rw [rnds, abcR54, abcW54]; exact v8_ext (by decide +kernel)
theorem abcR56 : rnds abcB H0 56 = ⟨952932627, 1053056219, 4117770203, 270520975, 1422599787, 3842906959, 2672265155, 1386118400⟩ := by rw [rnds, abcR55, abcW55]; exact v8_ext (by decide +kernel)
theorem abcR57 : rnds abcB H0 57 = ⟨4241590395, 952932627, 1053056219, 4117770203, 2606665836, 1422599787, 3842906959, 2672265155⟩ := by rw [rnds, abcR56, abcW56]; exact v8_ext (by decide +kernel)
theorem abcR58 : rnds abcB H0 58 = ⟨3227702383, 4241590395, 952932627, 1053056219, 2118385806, 2606665836, 1422599787, 3842906959⟩ := by rw [rnds, abcR57, abcW57]; exact v8_ext (by decide +kernel)
theorem abcR59 : rnds abcB H0 59 = ⟨4290184306, 3227702383, 4241590395, 952932627, 1837350854, 2118385806, 2606665836, 1422599787⟩ := by rw [rnds, abcR58, abcW58]; exact v8_ext (by decide +kernel)
theorem abcR60 : rnds abcB H0 60 = ⟨3064893439, 4290184306, 3227702383, 4241590395, 2988158269, 1837350854, 2118385806, 2606665836⟩ := by rw [rnds, abcR59, abcW59]; exact v8_ext (by decide +kernel)
theorem abcR61 : rnds abcB H0 61 = ⟨3093179625, 3064893439, 4290184306, 3227702383, 2518632596, 2988158269, 1837350854, 2118385806⟩ := by rw [rnds, abcR60, abcW60]; exact v8_ext (by decide +kernel)
theorem abcR62 : rnds abcB H0 62 = ⟨80891244, 3093179625, 3064893439, 4290184306, 2492278198, 2518632596, 2988158269, 1837350854⟩ := by rw [rnds, abcR61, abcW61]; exact v8_ext (by decide +kernel)
theorem abcR63 : rnds abcB H0 63 = ⟨3550093669, 80891244, 3093179625, 3064893439, 4212265488, 2492278198, 2518632596, 2988158269⟩ := by rw [rnds, abcR62, abcW62]; exact v8_ext (by decide +kernel)
theorem abcR64 : rnds abcB H0 64 = ⟨1349398616, 3550093669, 80891244, 3093179625, 1593118500, 4212265488, 2492278198, 2518632596⟩ := by rw [rnds, abcR63, abcW63]; exact v8_ext (by decide +kernel)
theorem abc_turn : turnF H0 abcB = ⟨3128432319, 2399260650, 1094795486, 1571693091, 2953011619, 2518121116, 3021012833, 4060091821⟩ := by unfold turnF; rw [abcR64]; exact v8_ext (by decide +kernel)
theorem abc_sum : shaB [97, 98, 99] = [186, 120, 22, 191, 143, 1, 207, 234, 65, 65, 64, 222, 93, 174, 34, 35, 176, 3, 97, 163, 150, 23, 122, 156, 180, 16, 255, 97, 242, 0, 21, 173] := by
  unfold shaB
  rw [abc_pad]
  have e : turned abcB = turnF H0 abcB := rfl
  rw [e, abc_turn]
  decide +kernel
end Go.Proofs.Ytgjcnmlfoagnpaa
