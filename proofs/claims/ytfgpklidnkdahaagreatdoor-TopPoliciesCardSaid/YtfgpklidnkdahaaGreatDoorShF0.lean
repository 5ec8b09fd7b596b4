/-
  The closed facts of the row, one by one.
-/
import Derived.Test.YtfgpklidnkdahaaGreatDoorRows
import Derived.JoinedOf
import Derived.KernelRfl
namespace Go.Proofs.YtfgpklidnkdahaaGreatDoor
open Go

theorem band {a b : Bool} (h : a = true) (k : b = true) : (a && b) = true := by rw [h, k]; rfl
theorem fact0 : (Rows.topPoliciesRow.wf (OpenSpec.ofChange Rows.topPoliciesSpec)) = true := by kernel_rfl
theorem fact1 : (laidOutB Tryz.prog) = true := by kernel_rfl
theorem fact2 : (mapsRowed Tryz.prog) = true := by kernel_rfl
theorem fact3 : (Tryz.f3.params.all (Tryz.prog.readableRec ·)) = true := by kernel_rfl
theorem fact4 : (namedTie Tryz.prog Rows.topPoliciesRow.named Rows.topPoliciesSpec.vars) = true := by kernel_rfl
theorem fact5 : (Rows.topPoliciesRow.stops == []) = true := by kernel_rfl
theorem fact6 : (Tryz.prog.stops == []) = true := by kernel_rfl
theorem fact7 : (Rows.topPoliciesRow.knobs == []) = true := by kernel_rfl
theorem fact8 : (Tryz.prog.stopKnobs == []) = true := by kernel_rfl
set_option maxRecDepth 100000
theorem clo : Tryz.prog.closure 3 = [3, 4, 5, 17, 18, 19, 10, 6, 20, 47, 29, 81, 83, 82, 152, 84, 153, 239, 85, 154, 48, 35, 63, 109, 181, 251, 27, 53, 89, 162, 163, 242, 90, 164, 91, 165, 243, 244, 245, 324, 64, 96, 174, 111, 182, 252, 110, 52, 49, 86, 92, 166, 246, 167, 157, 168, 87, 156, 155, 159, 158, 161, 241, 323, 240, 160, 21, 50, 88, 22, 23, 51, 24, 25, 26, 7, 28, 54, 55, 93, 94, 56, 58, 95, 170, 247, 196, 261, 341, 169, 171, 172, 248, 173, 232, 249, 123, 57, 9, 8, 30, 32, 31, 59, 33, 61, 106, 107, 60, 97, 103, 180, 98, 175, 99, 176, 177, 100, 178, 179, 250, 101, 102, 104, 105, 11, 34, 62, 108, 12, 36, 65, 66, 37, 13, 38, 67, 68, 69, 113, 112, 183, 39, 70, 40, 41, 14, 42, 71, 114, 184, 126, 199, 265, 343, 346, 378, 344, 200, 266, 267, 202, 345, 268, 269, 270, 271, 272, 273, 276, 279, 274, 201, 277, 278, 348, 379, 380, 275, 347, 253, 325, 372, 401, 301, 402, 185, 115, 116, 186, 15, 43, 72, 117, 187, 254, 326, 373, 340, 374, 255, 327, 328, 257, 375, 331, 329, 332, 330, 333, 334, 335, 336, 256, 338, 377, 337, 376, 188, 258, 339, 189, 259, 190, 118, 16, 45, 46, 44, 73, 119, 191, 132, 146, 237, 221, 298, 361, 145, 192, 193, 74, 120, 121, 122, 80, 140, 230, 233, 234, 235, 311, 284, 141, 231, 312, 142, 143, 236, 313, 314, 368, 315, 316, 369, 370, 399, 317, 318, 319, 320, 144, 147, 238, 321, 322, 371, 400, 148, 149, 150, 151, 195, 194, 260, 124, 197, 262, 263, 264, 342, 198, 125, 75, 127, 203, 204, 280, 349, 224, 300, 362, 392, 393, 425, 426, 394, 395, 427, 428, 460, 461, 350, 351, 381, 382, 352, 383, 403, 435, 128, 205, 281, 404, 436, 405, 437, 469, 509, 468, 508, 551, 406, 407, 408, 409, 438, 439, 440, 470, 442, 441, 384, 411, 443, 448, 410, 412, 444, 471, 388, 421, 455, 496, 542, 543, 422, 456, 497, 457, 458, 498, 459, 473, 472, 511, 510, 445, 474, 512, 413, 446, 475, 513, 552, 553, 476, 515, 555, 572, 573, 574, 575, 554, 571, 576, 577, 514, 477, 478, 516, 557, 556, 558, 559, 517, 560, 561, 562, 563, 564, 565, 566, 414, 415, 447, 479, 518, 519, 450, 449, 481, 482, 480, 520, 416, 451, 484, 483, 452, 485, 486, 521, 522, 523, 524, 417, 453, 418, 419, 420, 454, 487, 488, 525, 490, 526, 489, 494, 491, 527, 528, 492, 529, 493, 531, 532, 530, 567, 495, 533, 534, 535, 536, 537, 568, 569, 538, 539, 570, 540, 541, 76, 77, 129, 206, 216, 210, 282, 207, 208, 209, 283, 211, 285, 353, 354, 287, 355, 385, 386, 387, 356, 357, 389, 390, 424, 423, 286, 212, 214, 213, 288, 215, 217, 289, 218, 78, 130, 219, 131, 220, 290, 291, 358, 292, 293, 359, 360, 391, 294, 295, 296, 297, 133, 79, 134, 222, 299, 223, 225, 302, 135, 226, 303, 136, 137, 227, 304, 305, 364, 398, 433, 466, 507, 434, 467, 363, 396, 429, 397, 430, 462, 499, 500, 501, 502, 503, 544, 545, 546, 547, 548, 505, 431, 463, 504, 506, 549, 550, 432, 465, 464, 138, 228, 306, 307, 229, 310, 367, 365, 308, 366, 309, 139] := by kernel_rfl
theorem fact9 : (Rows.topPoliciesRow.inPlace == Tryz.prog.inPlace 3) = true := by
  unfold Program.inPlace
  rw [clo]
  kernel_rfl
theorem fact10 : (Rows.topPoliciesRow.unfollowed == Tryz.prog.unfollowed 3) = true := by
  unfold Program.unfollowed
  rw [clo]
  kernel_rfl
theorem fact11 : (Rows.topPoliciesRow.recurses == Tryz.prog.recurses 3) = true := by kernel_rfl
theorem fact12 : (Rows.topPoliciesRow.named == Tryz.prog.varsNamed 3) = true := by
  unfold Program.varsNamed
  rw [clo]
  kernel_rfl
theorem fact13 : (Rows.topPoliciesRow.maps == (Tryz.f3.params.toList ++ Rows.topPoliciesSpec.plain.varTypes Tryz.prog).any (Tryz.prog.mapsRec ·)) = true := by kernel_rfl
theorem fact14 : (Rows.topPoliciesRow.ifaces == (Tryz.f3.params.toList ++ Rows.topPoliciesSpec.plain.varTypes Tryz.prog).any (Tryz.prog.ifacesRec ·)) = true := by kernel_rfl
theorem fact15 : (Rows.topPoliciesRow.mapsOut == Tryz.prog.mapsAmong Tryz.f3.resultTypes.toList) = true := by kernel_rfl
theorem fact16 : (Rows.topPoliciesRow.loops == (Tryz.f3.params.toList ++ Rows.topPoliciesSpec.plain.varTypes Tryz.prog).any (Tryz.prog.loopsFrom ·)) = true := by kernel_rfl
theorem fact17 : (Rows.topPoliciesRow.wideKeys == (Tryz.f3.params.toList ++ Rows.topPoliciesSpec.plain.varTypes Tryz.prog ++ Tryz.f3.resultTypes.toList).any (Tryz.prog.wideKeysFrom ·)) = true := by kernel_rfl
theorem fact18 : (Rows.topPoliciesSpec.vars.all (Tryz.prog.varReadable ·)) = true := by kernel_rfl
theorem fact19 : (Tryz.f3.resultTypes.all (fun t => Tryz.prog.readableRec t && decide (t < Tryz.prog.types.size))) = true := by kernel_rfl
theorem fact20 : (Rows.topPoliciesRow.ifacesOut == Tryz.f3.resultTypes.toList.any (Tryz.prog.ifacesRec ·)) = true := by kernel_rfl
theorem fact21 : (Rows.topPoliciesRow.loopsOut == Tryz.f3.resultTypes.toList.any (Tryz.prog.loopsFrom ·)) = true := by kernel_rfl
theorem fact22 : (Rows.topPoliciesRow.plainKeys == Tryz.prog.plainKeys) = true := by kernel_rfl
theorem fact23 : (Rows.topPoliciesRow.shortTexts.isNone) = true := by kernel_rfl
theorem fact24 : (Tryz.prog.stopsHeard) = true := by kernel_rfl
theorem fact25 : (Tryz.prog.mayEnter) = true := by kernel_rfl
theorem fact26 : (Rows.topPoliciesRow.lifted == Tryz.prog.liftsFinal) = true := by kernel_rfl
theorem fact27 : (Tryz.prog.make == some Rows.topPoliciesRow.make) = true := by kernel_rfl
theorem fact28 : (Rows.topPoliciesRow.kinds == (if Rows.topPoliciesRow.domain.isEmpty then [] else Tryz.f3.params.toList.map fun t => match Tryz.prog.underlying t with | some (.int k) => some k | _ => none)) = true := by kernel_rfl
theorem fact29 : (Rows.topPoliciesRow.pinned == Rows.topPoliciesRow.pinnedBy) = true := by kernel_rfl
theorem fact30 : (Rows.topPoliciesRow.veiled == (Tryz.f3.params.toList ++ Rows.topPoliciesSpec.plain.varTypes Tryz.prog ++ Tryz.f3.resultTypes.toList).any (Tryz.prog.veiledRec ·)) = true := by kernel_rfl
theorem fact31 : (Rows.topPoliciesRow.veiledFits Tryz.prog Tryz.f3.params.toList (Tryz.f3.params.toList ++ Rows.topPoliciesSpec.plain.varTypes Tryz.prog ++ Tryz.f3.resultTypes.toList)) = true := by kernel_rfl
end Go.Proofs.YtfgpklidnkdahaaGreatDoor
