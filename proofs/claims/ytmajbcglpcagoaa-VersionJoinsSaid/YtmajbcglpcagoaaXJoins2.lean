/- VersionJoins by hand: parts in any order, joined, told by the document. No condition. -/
import Derived.Test.YtmajbcglpcagoaaXJoins1
import Derived.Test.YtmajbcglpcagoaaXJoinsP
import Derived.Laws.Rows
import Derived.Test.YtmajbcglpcagoaaX10
import Derived.Test.YtmajbcglpcagoaaX11
import Derived.Test.YtmajbcglpcagoaaX13
import Derived.Test.YtmajbcglpcagoaaX14
namespace Go.Proofs.Ytmajbcglpcagoaa.X
open Go Go.RowKit Go.Proofs.YtmajbcglpcagoaaW.PrintWords Go.Proofs.YtmajbcglpcagoaaW.PrintLast Go.Proofs.YtmajbcglpcagoaaW.PrintMore
set_option linter.unusedVariables false
set_option linter.unusedSimpArgs false
attribute [local go_sem] max2_int min2_int max_two min_two max_three min_three max_four min_four

def joins1.T : Bool × List (List Nat × List Nat) := (true, [([], []), ([], []), ([], []), ([2], [2]), ([3], [3]), ([1, 4], [1, 4]), ([0, 5], [0, 5]), ([], []), ([], []), ([], []), ([9], [9]), ([10], [10]), ([8, 11], [8, 11]), ([7, 12, 6], [7, 12]), ([], []), ([14], [14]), ([15], [15]), ([16], [16]), ([17], [17]), ([18, 18], [18]), ([], []), ([20], [20]), ([21], [21]), ([22], [22]), ([23], [23]), ([24, 24], [24]), ([6, 13, 19, 25], [6, 13, 19, 25]), ([], []), ([27, 26, 13, 0, 1, 2, 3, 4, 5, 6, 7, 8, 9, 10, 11, 12, 13, 14, 15, 16, 17, 18, 19, 20, 21, 22, 23, 24, 25, 26, 27], [26, 27])])
def joins1.B : List Nat := [0, 0, 0, 4, 12, 30, 63, 0, 0, 0, 512, 1536, 3840, 8191, 0, 16384, 49152, 114688, 245760, 507904, 0, 1048576, 3145728, 7340032, 15728640, 32505856, 67108863, 0, 268435455]
theorem joins1.tab : rtab .any (opsOf Try.f4 1) = joins1.T := by kernel_rfl
theorem joins1.bits : waitsOk joins1.T.2 joins1.B = true := by kernel_rfl
abbrev joins1.m0 : Array Bool := #[false, false, false, false, false, false, false, false, false, false, false, false, false, false, false, false, false, false, false, false, false, false, false, false, false, false, false, false, false]
abbrev joins1.m1 : Array Bool := #[false, true, false, false, false, false, false, false, false, false, false, false, false, false, false, false, false, false, false, false, false, false, false, false, false, false, false, false, false]
abbrev joins1.m2 : Array Bool := #[false, true, true, false, false, false, false, false, false, false, false, false, false, false, false, false, false, false, false, false, false, false, false, false, false, false, false, false, false]
abbrev joins1.m3 : Array Bool := #[false, true, true, true, false, false, false, false, false, false, false, false, false, false, false, false, false, false, false, false, false, false, false, false, false, false, false, false, false]
abbrev joins1.m4 : Array Bool := #[false, true, true, true, true, false, false, false, false, false, false, false, false, false, false, false, false, false, false, false, false, false, false, false, false, false, false, false, false]
abbrev joins1.m5 : Array Bool := #[false, true, true, true, true, true, false, false, false, false, false, false, false, false, false, false, false, false, false, false, false, false, false, false, false, false, false, false, false]
abbrev joins1.m6 : Array Bool := #[false, true, true, true, true, true, false, false, true, false, false, false, false, false, false, false, false, false, false, false, false, false, false, false, false, false, false, false, false]
abbrev joins1.m7 : Array Bool := #[false, true, true, true, true, true, false, false, true, true, false, false, false, false, false, false, false, false, false, false, false, false, false, false, false, false, false, false, false]
abbrev joins1.m8 : Array Bool := #[false, true, true, true, true, true, false, false, true, true, true, false, false, false, false, false, false, false, false, false, false, false, false, false, false, false, false, false, false]
abbrev joins1.m9 : Array Bool := #[false, true, true, true, true, true, false, false, true, true, true, true, false, false, false, false, false, false, false, false, false, false, false, false, false, false, false, false, false]
abbrev joins1.m10 : Array Bool := #[false, true, true, true, true, true, false, false, true, true, true, true, true, false, false, false, false, false, false, false, false, false, false, false, false, false, false, false, false]
abbrev joins1.m11 : Array Bool := #[false, true, true, true, true, true, false, false, true, true, true, true, true, false, true, false, false, false, false, false, false, false, false, false, false, false, false, false, false]
abbrev joins1.m12 : Array Bool := #[false, true, true, true, true, true, false, false, true, true, true, true, true, false, true, true, false, false, false, false, false, false, false, false, false, false, false, false, false]
abbrev joins1.m13 : Array Bool := #[false, true, true, true, true, true, false, false, true, true, true, true, true, false, true, true, true, false, false, false, false, false, false, false, false, false, false, false, false]
abbrev joins1.m14 : Array Bool := #[false, true, true, true, true, true, false, false, true, true, true, true, true, false, true, true, true, true, false, false, false, false, false, false, false, false, false, false, false]
abbrev joins1.m15 : Array Bool := #[false, true, true, true, true, true, false, false, true, true, true, true, true, false, true, true, true, true, true, false, false, false, false, false, false, false, false, false, false]
abbrev joins1.m16 : Array Bool := #[false, true, true, true, true, true, false, false, true, true, true, true, true, false, true, true, true, true, true, false, true, false, false, false, false, false, false, false, false]
abbrev joins1.m17 : Array Bool := #[false, true, true, true, true, true, false, false, true, true, true, true, true, false, true, true, true, true, true, false, true, true, false, false, false, false, false, false, false]
abbrev joins1.m18 : Array Bool := #[false, true, true, true, true, true, false, false, true, true, true, true, true, false, true, true, true, true, true, false, true, true, true, false, false, false, false, false, false]
abbrev joins1.m19 : Array Bool := #[false, true, true, true, true, true, false, false, true, true, true, true, true, false, true, true, true, true, true, false, true, true, true, true, false, false, false, false, false]
abbrev joins1.m20 : Array Bool := #[false, true, true, true, true, true, false, false, true, true, true, true, true, false, true, true, true, true, true, false, true, true, true, true, true, false, false, false, false]
abbrev joins1.m21 : Array Bool := #[true, true, true, true, true, true, true, true, true, true, true, true, true, true, true, true, true, true, true, true, true, true, true, true, true, true, true, true, false]
abbrev joins1.m22 : Array Bool := #[true, true, true, true, true, true, true, true, true, true, true, true, true, true, true, true, true, true, true, true, true, true, true, true, true, true, true, true, true]
abbrev joins1.m23 : Array Bool := #[true, true, true, true, true, true, true, true, true, true, true, true, true, true, true, true, true, true, true, true, true, true, true, true, true, true, true, false, false]
abbrev joins1.m24 : Array Bool := #[true, true, true, true, true, true, true, true, true, true, true, true, true, true, true, true, true, true, true, true, true, true, true, true, true, true, false, true, false]
abbrev joins1.m25 : Array Bool := #[true, true, true, true, true, true, true, true, true, true, true, true, true, true, true, true, true, true, true, true, true, true, true, true, true, true, false, false, false]
abbrev joins1.m26 : Array Bool := #[true, true, true, true, true, true, true, true, true, true, true, true, true, true, true, true, true, true, true, true, true, true, true, true, true, false, false, true, false]
abbrev joins1.m27 : Array Bool := #[true, true, true, true, true, true, true, true, true, true, true, true, true, true, true, true, true, true, true, true, true, true, true, true, true, false, false, false, false]
abbrev joins1.m28 : Array Bool := #[true, true, true, true, true, true, true, true, true, true, true, true, true, true, true, true, true, true, true, false, true, true, true, true, true, true, false, true, false]
abbrev joins1.m29 : Array Bool := #[true, true, true, true, true, true, true, true, true, true, true, true, true, true, true, true, true, true, true, false, true, true, true, true, true, true, false, false, false]
abbrev joins1.m30 : Array Bool := #[true, true, true, true, true, true, true, true, true, true, true, true, true, true, true, true, true, true, true, false, true, true, true, true, true, false, false, true, false]
abbrev joins1.m31 : Array Bool := #[true, true, true, true, true, true, true, true, true, true, true, true, true, true, true, true, true, true, true, false, true, true, true, true, true, false, false, false, false]
abbrev joins1.m32 : Array Bool := #[true, true, true, true, true, true, true, true, true, true, true, true, true, false, true, true, true, true, true, true, true, true, true, true, true, true, false, true, false]
abbrev joins1.m33 : Array Bool := #[true, true, true, true, true, true, true, true, true, true, true, true, true, false, true, true, true, true, true, true, true, true, true, true, true, true, false, false, false]
abbrev joins1.m34 : Array Bool := #[true, true, true, true, true, true, true, true, true, true, true, true, true, false, true, true, true, true, true, true, true, true, true, true, true, false, false, true, false]
abbrev joins1.m35 : Array Bool := #[true, true, true, true, true, true, true, true, true, true, true, true, true, false, true, true, true, true, true, true, true, true, true, true, true, false, false, false, false]
abbrev joins1.m36 : Array Bool := #[true, true, true, true, true, true, true, true, true, true, true, true, true, false, true, true, true, true, true, false, true, true, true, true, true, true, false, true, false]
abbrev joins1.m37 : Array Bool := #[true, true, true, true, true, true, true, true, true, true, true, true, true, false, true, true, true, true, true, false, true, true, true, true, true, true, false, false, false]
abbrev joins1.m38 : Array Bool := #[true, true, true, true, true, true, true, true, true, true, true, true, true, false, true, true, true, true, true, false, true, true, true, true, true, false, false, true, false]
abbrev joins1.m39 : Array Bool := #[true, true, true, true, true, true, true, true, true, true, true, true, true, false, true, true, true, true, true, false, true, true, true, true, true, false, false, false, false]
abbrev joins1.m40 : Array Bool := #[true, true, true, true, true, true, true, false, true, true, true, true, true, false, true, true, true, true, true, true, true, true, true, true, true, true, false, true, false]
abbrev joins1.m41 : Array Bool := #[true, true, true, true, true, true, true, false, true, true, true, true, true, false, true, true, true, true, true, true, true, true, true, true, true, true, false, false, false]
abbrev joins1.m42 : Array Bool := #[true, true, true, true, true, true, true, false, true, true, true, true, true, false, true, true, true, true, true, true, true, true, true, true, true, false, false, true, false]
abbrev joins1.m43 : Array Bool := #[true, true, true, true, true, true, true, false, true, true, true, true, true, false, true, true, true, true, true, true, true, true, true, true, true, false, false, false, false]
abbrev joins1.m44 : Array Bool := #[true, true, true, true, true, true, true, false, true, true, true, true, true, false, true, true, true, true, true, false, true, true, true, true, true, true, false, true, false]
abbrev joins1.m45 : Array Bool := #[true, true, true, true, true, true, true, false, true, true, true, true, true, false, true, true, true, true, true, false, true, true, true, true, true, true, false, false, false]
abbrev joins1.m46 : Array Bool := #[true, true, true, true, true, true, true, false, true, true, true, true, true, false, true, true, true, true, true, false, true, true, true, true, true, false, false, true, false]
abbrev joins1.m47 : Array Bool := #[true, true, true, true, true, true, true, false, true, true, true, true, true, false, true, true, true, true, true, false, true, true, true, true, true, false, false, false, false]
abbrev joins1.m48 : Array Bool := #[true, true, true, true, true, true, false, true, true, true, true, true, true, false, true, true, true, true, true, true, true, true, true, true, true, true, false, true, false]
abbrev joins1.m49 : Array Bool := #[true, true, true, true, true, true, false, true, true, true, true, true, true, false, true, true, true, true, true, true, true, true, true, true, true, true, false, false, false]
abbrev joins1.m50 : Array Bool := #[true, true, true, true, true, true, false, true, true, true, true, true, true, false, true, true, true, true, true, true, true, true, true, true, true, false, false, true, false]
abbrev joins1.m51 : Array Bool := #[true, true, true, true, true, true, false, true, true, true, true, true, true, false, true, true, true, true, true, true, true, true, true, true, true, false, false, false, false]
abbrev joins1.m52 : Array Bool := #[true, true, true, true, true, true, false, true, true, true, true, true, true, false, true, true, true, true, true, false, true, true, true, true, true, true, false, true, false]
abbrev joins1.m53 : Array Bool := #[true, true, true, true, true, true, false, true, true, true, true, true, true, false, true, true, true, true, true, false, true, true, true, true, true, true, false, false, false]
abbrev joins1.m54 : Array Bool := #[true, true, true, true, true, true, false, true, true, true, true, true, true, false, true, true, true, true, true, false, true, true, true, true, true, false, false, true, false]
abbrev joins1.m55 : Array Bool := #[true, true, true, true, true, true, false, true, true, true, true, true, true, false, true, true, true, true, true, false, true, true, true, true, true, false, false, false, false]
abbrev joins1.m56 : Array Bool := #[true, true, true, true, true, true, false, false, true, true, true, true, true, false, true, true, true, true, true, true, true, true, true, true, true, true, false, true, false]
abbrev joins1.m57 : Array Bool := #[true, true, true, true, true, true, false, false, true, true, true, true, true, false, true, true, true, true, true, true, true, true, true, true, true, true, false, false, false]
abbrev joins1.m58 : Array Bool := #[true, true, true, true, true, true, false, false, true, true, true, true, true, false, true, true, true, true, true, true, true, true, true, true, true, false, false, true, false]
abbrev joins1.m59 : Array Bool := #[true, true, true, true, true, true, false, false, true, true, true, true, true, false, true, true, true, true, true, true, true, true, true, true, true, false, false, false, false]
abbrev joins1.m60 : Array Bool := #[true, true, true, true, true, true, false, false, true, true, true, true, true, false, true, true, true, true, true, false, true, true, true, true, true, true, false, true, false]
abbrev joins1.m61 : Array Bool := #[true, true, true, true, true, true, false, false, true, true, true, true, true, false, true, true, true, true, true, false, true, true, true, true, true, true, false, false, false]
abbrev joins1.m62 : Array Bool := #[true, true, true, true, true, true, false, false, true, true, true, true, true, false, true, true, true, true, true, false, true, true, true, true, true, false, false, true, false]
abbrev joins1.m63 : Array Bool := #[true, true, true, true, true, true, false, false, true, true, true, true, true, false, true, true, true, true, true, false, true, true, true, true, true, false, false, false, false]
abbrev joins1.m64 : Array Bool := #[false, true, true, true, true, true, false, true, true, true, true, true, true, false, true, true, true, true, true, true, true, true, true, true, true, true, false, true, false]
abbrev joins1.m65 : Array Bool := #[false, true, true, true, true, true, false, true, true, true, true, true, true, false, true, true, true, true, true, true, true, true, true, true, true, true, false, false, false]
abbrev joins1.m66 : Array Bool := #[false, true, true, true, true, true, false, true, true, true, true, true, true, false, true, true, true, true, true, true, true, true, true, true, true, false, false, true, false]
abbrev joins1.m67 : Array Bool := #[false, true, true, true, true, true, false, true, true, true, true, true, true, false, true, true, true, true, true, true, true, true, true, true, true, false, false, false, false]
abbrev joins1.m68 : Array Bool := #[false, true, true, true, true, true, false, true, true, true, true, true, true, false, true, true, true, true, true, false, true, true, true, true, true, true, false, true, false]
abbrev joins1.m69 : Array Bool := #[false, true, true, true, true, true, false, true, true, true, true, true, true, false, true, true, true, true, true, false, true, true, true, true, true, true, false, false, false]
abbrev joins1.m70 : Array Bool := #[false, true, true, true, true, true, false, true, true, true, true, true, true, false, true, true, true, true, true, false, true, true, true, true, true, false, false, true, false]
abbrev joins1.m71 : Array Bool := #[false, true, true, true, true, true, false, true, true, true, true, true, true, false, true, true, true, true, true, false, true, true, true, true, true, false, false, false, false]
abbrev joins1.m72 : Array Bool := #[false, true, true, true, true, true, false, false, true, true, true, true, true, false, true, true, true, true, true, true, true, true, true, true, true, true, false, true, false]
abbrev joins1.m73 : Array Bool := #[false, true, true, true, true, true, false, false, true, true, true, true, true, false, true, true, true, true, true, true, true, true, true, true, true, true, false, false, false]
abbrev joins1.m74 : Array Bool := #[false, true, true, true, true, true, false, false, true, true, true, true, true, false, true, true, true, true, true, true, true, true, true, true, true, false, false, true, false]
abbrev joins1.m75 : Array Bool := #[false, true, true, true, true, true, false, false, true, true, true, true, true, false, true, true, true, true, true, true, true, true, true, true, true, false, false, false, false]
abbrev joins1.m76 : Array Bool := #[false, true, true, true, true, true, false, false, true, true, true, true, true, false, true, true, true, true, true, false, true, true, true, true, true, true, false, true, false]
abbrev joins1.m77 : Array Bool := #[false, true, true, true, true, true, false, false, true, true, true, true, true, false, true, true, true, true, true, false, true, true, true, true, true, true, false, false, false]
abbrev joins1.m78 : Array Bool := #[false, true, true, true, true, true, false, false, true, true, true, true, true, false, true, true, true, true, true, false, true, true, true, true, true, false, false, true, false]
def j7a.T : Bool × List (List Nat × List Nat) := (true, [([], []), ([0], [0]), ([1], [1]), ([2, 1], [1, 2]), ([3, 1], [1, 3]), ([4, 1, 1], [1, 4]), ([1, 5], [1, 5]), ([], []), ([7, 5], [7]), ([8], [8]), ([9, 8], [8, 9]), ([10, 8], [8, 10]), ([11, 8], [8, 11]), ([8], [8]), ([13, 8], [8, 13]), ([14, 8], [8, 14]), ([12, 15, 8], [8, 12, 15]), ([8, 16], [8, 16]), ([6, 8, 0, 1, 2, 3, 4, 5, 6], [0, 6]), ([17, 18, 0, 1, 2, 3, 4, 5, 6, 7, 8, 9, 10, 11, 12, 13, 14, 15, 16, 17, 18], [7, 17])])
def j7a.B : List Nat := [0, 1, 3, 7, 15, 31, 63, 0, 191, 447, 959, 1983, 4031, 447, 8639, 25023, 65471, 131007, 511, 524287]
theorem j7a.tab : rtab .any (opsOf Try.f4 7) = j7a.T := by kernel_rfl
theorem j7a.bits : waitsOk j7a.T.2 j7a.B = true := by kernel_rfl
def j7b.T : Bool × List (List Nat × List Nat) := (true, [([], []), ([0], [0]), ([1], [1]), ([2, 1], [1, 2]), ([3, 1], [1, 3]), ([4, 1, 1], [1, 4]), ([1, 5], [1, 5]), ([], []), ([7, 5], [7]), ([8], [8]), ([9, 8], [8, 9]), ([10, 8], [8, 10]), ([11, 8], [8, 11]), ([8], [8]), ([13, 8], [8, 13]), ([14, 8], [8, 14]), ([12, 15, 8], [8, 12, 15]), ([8, 16], [8, 16]), ([6, 8, 0, 1, 2, 3, 4, 5, 6], [0, 6]), ([17, 18, 0, 1, 2, 3, 4, 5, 6, 7, 8, 9, 10, 11, 12, 13, 14, 15, 16, 17, 18], [7, 17])])
def j7b.B : List Nat := [0, 1, 3, 7, 15, 31, 63, 0, 191, 447, 959, 1983, 4031, 447, 8639, 25023, 65471, 131007, 511, 524287]
theorem j7b.tab : rtab .any (opsOf Try.f4 7) = j7b.T := by kernel_rfl
theorem j7b.bits : waitsOk j7b.T.2 j7b.B = true := by kernel_rfl
def j7c.T : Bool × List (List Nat × List Nat) := (true, [([], []), ([0], [0]), ([1], [1]), ([2, 1], [1, 2]), ([3, 1], [1, 3]), ([4, 1, 1], [1, 4]), ([1, 5], [1, 5]), ([], []), ([7, 5], [7]), ([8], [8]), ([9, 8], [8, 9]), ([10, 8], [8, 10]), ([11, 8], [8, 11]), ([8], [8]), ([13, 8], [8, 13]), ([14, 8], [8, 14]), ([12, 15, 8], [8, 12, 15]), ([8, 16], [8, 16]), ([6, 8, 0, 1, 2, 3, 4, 5, 6], [0, 6]), ([17, 18, 0, 1, 2, 3, 4, 5, 6, 7, 8, 9, 10, 11, 12, 13, 14, 15, 16, 17, 18], [7, 17])])
def j7c.B : List Nat := [0, 1, 3, 7, 15, 31, 63, 0, 191, 447, 959, 1983, 4031, 447, 8639, 25023, 65471, 131007, 511, 524287]
theorem j7c.tab : rtab .any (opsOf Try.f4 7) = j7c.T := by kernel_rfl
theorem j7c.bits : waitsOk j7c.T.2 j7c.B = true := by kernel_rfl
def j7d.T : Bool × List (List Nat × List Nat) := (true, [([], []), ([0], [0]), ([1], [1]), ([2, 1], [1, 2]), ([3, 1], [1, 3]), ([4, 1, 1], [1, 4]), ([1, 5], [1, 5]), ([], []), ([7, 5], [7]), ([8], [8]), ([9, 8], [8, 9]), ([10, 8], [8, 10]), ([11, 8], [8, 11]), ([8], [8]), ([13, 8], [8, 13]), ([14, 8], [8, 14]), ([12, 15, 8], [8, 12, 15]), ([8, 16], [8, 16]), ([6, 8, 0, 1, 2, 3, 4, 5, 6], [0, 6]), ([17, 18, 0, 1, 2, 3, 4, 5, 6, 7, 8, 9, 10, 11, 12, 13, 14, 15, 16, 17, 18], [7, 17])])
def j7d.B : List Nat := [0, 1, 3, 7, 15, 31, 63, 0, 191, 447, 959, 1983, 4031, 447, 8639, 25023, 65471, 131007, 511, 524287]
theorem j7d.tab : rtab .any (opsOf Try.f4 7) = j7d.T := by kernel_rfl
theorem j7d.bits : waitsOk j7d.T.2 j7d.B = true := by kernel_rfl
def j15.T : Bool × List (List Nat × List Nat) := (true, [([], []), ([], []), ([0, 1], [0, 1]), ([2], [2]), ([], []), ([4], [4]), ([5], [5]), ([6], [6]), ([3, 7], [3, 7])])
def j15.B : List Nat := [0, 0, 3, 7, 0, 16, 48, 112, 255]
theorem j15.tab : rtab .any (opsOf Try.f4 15) = j15.T := by kernel_rfl
theorem j15.bits : waitsOk j15.T.2 j15.B = true := by kernel_rfl
set_option maxRecDepth 100000 in
set_option maxHeartbeats 40000000 in
theorem joins_calls (A0 : Option Addr) (c0 : Nat) (l0 : List Int) (A1 : Option Addr) (c1 : Nat) (l1 : List Int) (n0 n1 : Int) (w : World) (hr0 : Kd.C (Kd.int .u8) w A0 l0.length l0) (hc0 : l0.length ≤ c0)
    (hr1 : Kd.C (Kd.int .u8) w A1 l1.length l1) (hc1 : l1.length ≤ c1) (hw0 : ∀ x ∈ l0, 0 ≤ x ∧ x ≤ 255) (hw1 : ∀ x ∈ l1, 0 ≤ x ∧ x ≤ 255)
    (hn0 : -9223372036854775808 ≤ n0 ∧ n0 ≤ 9223372036854775807) (hn1 : -9223372036854775808 ≤ n1 ∧ n1 ≤ 9223372036854775807) :
    Calls Try.prog 4 #[.slice A0 l0.length c0, .slice A1 l1.length c1, .agg #[.int .i64 n0, .int .i64 n1]] w fun e w' => e = .returned (.bool true) ∧ Below w.heap.size w w' := by
  obtain ⟨i0, hi, hz0, hz1, hz2⟩ := info_parts u8_info5
  obtain ⟨J0, hJ0⟩ : ∃ J : Int, (if (60 : Int) < (l0.length : Int) then (60 : Int) else (l0.length : Int)) = J := ⟨_, rfl⟩
  have hJ0a : 0 ≤ J0 := by rw [← hJ0]; split <;> omega
  have hJ0b : J0 ≤ (l0.length : Int) := by rw [← hJ0]; split <;> omega
  have hJ0c : J0 ≤ 60 := by rw [← hJ0]; split <;> omega
  obtain ⟨M0, rfl⟩ := Int.eq_ofNat_of_zero_le hJ0a
  obtain ⟨J1, hJ1⟩ : ∃ J : Int, (if (60 : Int) < (l1.length : Int) then (60 : Int) else (l1.length : Int)) = J := ⟨_, rfl⟩
  have hJ1a : 0 ≤ J1 := by rw [← hJ1]; split <;> omega
  have hJ1b : J1 ≤ (l1.length : Int) := by rw [← hJ1]; split <;> omega
  have hJ1c : J1 ≤ 60 := by rw [← hJ1]; split <;> omega
  obtain ⟨M1, rfl⟩ := Int.eq_ofNat_of_zero_le hJ1a
  have d0 : ((M0 : Int) ≤ (l0.length : Int)) = True := eq_true hJ0b
  have d0b : decide ((M0 : Int) ≤ (l0.length : Int)) = true := decide_eq_true hJ0b
  have d1 : ((M1 : Int) ≤ (l1.length : Int)) = True := eq_true hJ1b
  have d1b : decide ((M1 : Int) ≤ (l1.length : Int)) = true := decide_eq_true hJ1b
  obtain ⟨hcut0, hA0, hCC0⟩ := print_take_of (P := Try.prog) (Value.int .u8) 0 22 5 .i64 Try.underlying22 hi hz1 A0 c0 l0 (M0 : Int) hJ0a hJ0b hc0
  obtain ⟨hcut1, hA1, hCC1⟩ := print_take_of (P := Try.prog) (Value.int .u8) 0 22 5 .i64 Try.underlying22 hi hz1 A1 c1 l1 (M1 : Int) hJ1a hJ1b hc1
  rw [Int.toNat_natCast] at hcut0 hA0 hCC0 hcut1 hA1 hCC1
  have hla : (l0.take M0).length = M0 := by rw [List.length_take]; omega
  have hlb : (l1.take M1).length = M1 := by rw [List.length_take]; omega
  have hwa : ∀ x ∈ l0.take M0, 0 ≤ x ∧ x ≤ 255 := fun x hx => hw0 x (List.mem_of_mem_take hx)
  have hwb : ∀ x ∈ l1.take M1, 0 ≤ x ∧ x ≤ 255 := fun x hx => hw1 x (List.mem_of_mem_take hx)
  have HRA := Aside0.mk (Kd.C_of_reads (h1 := fun _ => rfl) (hA0 _ (Kd.reads_of_C hr0)))
  have HRB := Aside0.mk (Kd.C_of_reads (h1 := fun _ => rfl) (hA1 _ (Kd.reads_of_C hr1)))
  rw [hla] at hcut0 HRA
  rw [hlb] at hcut1 HRB
  generalize l0.take M0 = a at hla hwa HRA
  generalize l1.take M1 = b at hlb hwb HRB
  obtain ⟨m0, hm0, em0⟩ := mod20 n0 hn0
  obtain ⟨m1, hm1, em1⟩ := mod20 n1 hn1
  clear hr0 hr1 hA0 hA1 hCC0 hCC1 hw0 hw1
  go_enter Try.func4, Try.ntmps4
  go_wp2_with fail
  obtain ⟨w1, hw1⟩ : ∃ w1, w1 = w.alloc (.cells #[.int .i64 n0, .int .i64 n1] 32) := ⟨_, rfl⟩
  have hs1 : w1.heap[w.heap.size]? = some (.cells #[.int .i64 n0, .int .i64 n1] 32 (0, 0)) := by rw [hw1]; exact World.alloc_heap_new w _
  have hB01 : Below w.heap.size w w1 := by rw [hw1]; exact below_alloc (Below.refl _ _) _
  have hlt1 : w.heap.size < w1.heap.size := (Array.getElem?_eq_some_iff.1 hs1).1
  have HS := Aside0.mk (show ∀ w', Below w1.heap.size w1 w' → w'.cell? ⟨w.heap.size, 0, none⟩ = some (.int .i64 n0) ∧ w'.cell? ⟨w.heap.size, 1, none⟩ = some (.int .i64 n1) from fun w' hb => by
    have h := (hb.block _ hlt1).trans hs1
    exact ⟨by simp [World.cell?, h], by simp [World.cell?, h]⟩)
  have HA := Aside0.mk (show ∀ w', Below w1.heap.size w1 w' → Kd.C (Kd.int .u8) w' A0 M0 a from fun w' hb => Kd.C_below HRA.out (below_step hB01 hb))
  have HBb := Aside0.mk (show ∀ w', Below w1.heap.size w1 w' → Kd.C (Kd.int .u8) w' A1 M1 b from fun w' hb => Kd.C_below HRB.out (below_step hB01 hb))
  have HB01 := Aside0.mk hB01
  rw [← hw1]
  clear hw1 hs1 hB01 hlt1 HRA HRB
  have hq0 : JQ w1 w1.drew (q4 (.slice none 0 0) (.slice none 0 0) (.slice none 0 0) (.slice none 0 0)) (q4 [] [] [] []) (.bool false) :=
    ⟨below_drew1 (Below.refl _ _), fun i hi => by
      match i, hi with
      | 0, _ => exact Kd.R_nil _ _ _ _ _
      | 1, _ => exact Kd.R_nil _ _ _ _ _
      | 2, _ => exact Kd.R_nil _ _ _ _ _
      | 3, _ => exact Kd.R_nil _ _ _ _ _, fun b hb => by cases hb⟩
  have HQ := Aside0.mk (And.intro hq0 (And.intro True.intro True.intro))
  clear hq0
  have hM0 : M0 ≤ 1000 := by omega
  have hM1 : M1 ≤ 1000 := by omega
  have hm0k : m0 ≤ 1000 := by omega
  have hm1k : m1 ≤ 1000 := by omega
  refine start_ (n := 29) (S := (fun w' => w'.cell? ⟨w.heap.size, 0, none⟩ = some (.int .i64 n0) ∧ w'.cell? ⟨w.heap.size, 1, none⟩ = some (.int .i64 n1))) (ds := []) joins1.m0 (by kernel_rfl) rfl rfl (HS.out _ HQ.out.1.bel) (fun hHeld => ?_)
  refine with_tabW joins1.tab joins1.bits (fun HT_ HW_ => ?_)
  refine pure_ (i := 1) (N := some 15) (v := ?_) (a' := ?_) joins1.m1 rfl rfl (any_of HT_.out (by kernel_rfl)) (fun _ _ _ h => h) (Or.inl ⟨by rfl, ?_⟩) ?_ ?_
  rotate_left
  · intro w'
    go_simp
    with_reducible rfl
  rotate_left
  · simp only [Act.put, List.setIfInBounds_toArray, List.set_cons_zero, List.set_cons_succ, i64_w, i32_w]
    rfl
  refine pure_ (i := 2) (N := some 16) (v := ?_) (a' := ?_) joins1.m2 rfl rfl (any_of HT_.out (by kernel_rfl)) (fun _ _ _ h => h) (Or.inl ⟨by rfl, ?_⟩) ?_ ?_
  rotate_left
  · intro w'
    go_simp
    with_reducible rfl
  rotate_left
  · simp only [Act.put, List.setIfInBounds_toArray, List.set_cons_zero, List.set_cons_succ, i64_w, i32_w]
    rfl
  refine pure_ (i := 3) (N := some 17) (v := ?_) (a' := ?_) joins1.m3 rfl rfl (any_of HT_.out (by kernel_rfl)) (fun _ _ _ h => h) (Or.inl ⟨by rfl, ?_⟩) ?_ ?_
  rotate_left
  · intro w'
    go_simp
    with_reducible rfl
  rotate_left
  · simp only [Act.put, List.setIfInBounds_toArray, List.set_cons_zero, List.set_cons_succ, i64_w, i32_w]
    rfl
  refine pure_ (i := 4) (N := some 18) (v := ?_) (a' := ?_) joins1.m4 rfl rfl (any_of HT_.out (by kernel_rfl)) (fun _ _ _ h => h) (Or.inl ⟨by rfl, ?_⟩) ?_ ?_
  rotate_left
  · intro w'
    go_simp
    with_reducible rfl
  rotate_left
  · simp only [Act.put, List.setIfInBounds_toArray, List.set_cons_zero, List.set_cons_succ, i64_w, i32_w]
    rfl
  refine pure_ (i := 5) (N := some 19) (v := ?_) (a' := ?_) joins1.m5 rfl rfl (any_of HT_.out (by kernel_rfl)) (fun _ _ _ h => h) (Or.inl ⟨by rfl, ?_⟩) ?_ ?_
  rotate_left
  · intro w'
    go_simp
    with_reducible rfl
  rotate_left
  · simp only [Act.put, List.setIfInBounds_toArray, List.set_cons_zero, List.set_cons_succ, i64_w, i32_w]
    rfl
  refine pure_ (i := 8) (N := some 22) (v := ?_) (a' := ?_) joins1.m6 rfl rfl (any_of HT_.out (by kernel_rfl)) (fun _ _ _ h => h) (Or.inl ⟨by rfl, ?_⟩) ?_ ?_
  rotate_left
  · intro w'
    go_simp
    with_reducible rfl
  rotate_left
  · simp only [Act.put, List.setIfInBounds_toArray, List.set_cons_zero, List.set_cons_succ, i64_w, i32_w]
    rfl
  refine pure_ (i := 9) (N := some 23) (v := ?_) (a' := ?_) joins1.m7 rfl rfl (any_of HT_.out (by kernel_rfl)) (fun _ _ _ h => h) (Or.inl ⟨by rfl, ?_⟩) ?_ ?_
  rotate_left
  · intro w'
    go_simp
    with_reducible rfl
  rotate_left
  · simp only [Act.put, List.setIfInBounds_toArray, List.set_cons_zero, List.set_cons_succ, i64_w, i32_w]
    rfl
  refine pure_ (i := 10) (N := some 24) (v := ?_) (a' := ?_) joins1.m8 rfl rfl (any_of HT_.out (by kernel_rfl)) (fun _ _ _ h => h) (Or.inl ⟨by rfl, ?_⟩) ?_ ?_
  rotate_left
  · intro w'
    go_simp
    with_reducible rfl
  rotate_left
  · simp only [Act.put, List.setIfInBounds_toArray, List.set_cons_zero, List.set_cons_succ, i64_w, i32_w]
    rfl
  refine pure_ (i := 11) (N := some 25) (v := ?_) (a' := ?_) joins1.m9 rfl rfl (any_of HT_.out (by kernel_rfl)) (fun _ _ _ h => h) (Or.inl ⟨by rfl, ?_⟩) ?_ ?_
  rotate_left
  · intro w'
    go_simp
    with_reducible rfl
  rotate_left
  · simp only [Act.put, List.setIfInBounds_toArray, List.set_cons_zero, List.set_cons_succ, i64_w, i32_w]
    rfl
  refine pure_ (i := 12) (N := some 26) (v := ?_) (a' := ?_) joins1.m10 rfl rfl (any_of HT_.out (by kernel_rfl)) (fun _ _ _ h => h) (Or.inl ⟨by rfl, ?_⟩) ?_ ?_
  rotate_left
  · intro w'
    go_simp
    with_reducible rfl
  rotate_left
  · simp only [Act.put, List.setIfInBounds_toArray, List.set_cons_zero, List.set_cons_succ, i64_w, i32_w]
    rfl
  refine pure_ (i := 14) (N := some 28) (v := ?_) (a' := ?_) joins1.m11 rfl rfl (any_of HT_.out (by kernel_rfl)) (fun _ _ _ h => h) (Or.inl ⟨by rfl, ?_⟩) ?_ ?_
  rotate_left
  · intro w'
    go_simp
    with_reducible rfl
  rotate_left
  · simp only [Act.put, List.setIfInBounds_toArray, List.set_cons_zero, List.set_cons_succ, i64_w, i32_w]
    rfl
  refine take_ (i := 15) (N := some 29) (v := ?_) (a' := ?_) joins1.m12 rfl rfl (take_ofW HT_.out HW_.out (by kernel_rfl)) (fun _ _ _ h => h) (Or.inl ⟨by rfl, ?_⟩) hHeld ?_ ?_
  rotate_left
  · rintro w' ⟨s0, s1⟩
    go_simp
    with_reducible rfl
  rotate_left
  · simp only [Act.put, List.setIfInBounds_toArray, List.set_cons_zero, List.set_cons_succ, i64_w, i32_w]
    rfl
  refine pure_ (i := 16) (N := some 30) (v := ?_) (a' := ?_) joins1.m13 rfl rfl (any_of HT_.out (by kernel_rfl)) (fun _ _ _ h => h) (Or.inl ⟨by rfl, ?_⟩) ?_ ?_
  rotate_left
  · intro w'
    go_simp
    with_reducible rfl
  rotate_left
  · simp only [Act.put, List.setIfInBounds_toArray, List.set_cons_zero, List.set_cons_succ, i64_w, i32_w]
    rfl
  refine pure_ (i := 17) (N := some 31) (v := ?_) (a' := ?_) joins1.m14 rfl rfl (any_of HT_.out (by kernel_rfl)) (fun _ _ _ h => h) (Or.inl ⟨by rfl, ?_⟩) ?_ ?_
  rotate_left
  · intro w'
    go_simp
    with_reducible rfl
  rotate_left
  · simp only [Act.put, List.setIfInBounds_toArray, List.set_cons_zero, List.set_cons_succ, i64_w, i32_w]
    rfl
  refine pure_ (i := 18) (N := some 32) (v := ?_) (a' := ?_) joins1.m15 rfl rfl (any_of HT_.out (by kernel_rfl)) (fun _ _ _ h => h) (Or.inl ⟨by rfl, ?_⟩) ?_ ?_
  rotate_left
  · intro w'
    go_simp
    with_reducible rfl
  rotate_left
  · simp only [Act.put, List.setIfInBounds_toArray, List.set_cons_zero, List.set_cons_succ, i64_w, i32_w]
    rfl
  refine pure_ (i := 20) (N := some 34) (v := ?_) (a' := ?_) joins1.m16 rfl rfl (any_of HT_.out (by kernel_rfl)) (fun _ _ _ h => h) (Or.inl ⟨by rfl, ?_⟩) ?_ ?_
  rotate_left
  · intro w'
    go_simp
    with_reducible rfl
  rotate_left
  · simp only [Act.put, List.setIfInBounds_toArray, List.set_cons_zero, List.set_cons_succ, i64_w, i32_w]
    rfl
  refine take_ (i := 21) (N := some 35) (v := ?_) (a' := ?_) joins1.m17 rfl rfl (take_ofW HT_.out HW_.out (by kernel_rfl)) (fun _ _ _ h => h) (Or.inl ⟨by rfl, ?_⟩) hHeld ?_ ?_
  rotate_left
  · rintro w' ⟨s0, s1⟩
    go_simp
    with_reducible rfl
  rotate_left
  · simp only [Act.put, List.setIfInBounds_toArray, List.set_cons_zero, List.set_cons_succ, i64_w, i32_w]
    rfl
  refine pure_ (i := 22) (N := some 36) (v := ?_) (a' := ?_) joins1.m18 rfl rfl (any_of HT_.out (by kernel_rfl)) (fun _ _ _ h => h) (Or.inl ⟨by rfl, ?_⟩) ?_ ?_
  rotate_left
  · intro w'
    go_simp
    with_reducible rfl
  rotate_left
  · simp only [Act.put, List.setIfInBounds_toArray, List.set_cons_zero, List.set_cons_succ, i64_w, i32_w]
    rfl
  refine pure_ (i := 23) (N := some 37) (v := ?_) (a' := ?_) joins1.m19 rfl rfl (any_of HT_.out (by kernel_rfl)) (fun _ _ _ h => h) (Or.inl ⟨by rfl, ?_⟩) ?_ ?_
  rotate_left
  · intro w'
    go_simp
    with_reducible rfl
  rotate_left
  · simp only [Act.put, List.setIfInBounds_toArray, List.set_cons_zero, List.set_cons_succ, i64_w, i32_w]
    rfl
  refine pure_ (i := 24) (N := some 38) (v := ?_) (a' := ?_) joins1.m20 rfl rfl (any_of HT_.out (by kernel_rfl)) (fun _ _ _ h => h) (Or.inl ⟨by rfl, ?_⟩) ?_ ?_
  rotate_left
  · intro w'
    go_simp
    with_reducible rfl
  rotate_left
  · simp only [Act.put, List.setIfInBounds_toArray, List.set_cons_zero, List.set_cons_succ, i64_w, i32_w]
    rfl
  refine join_ (σ := Value × Value × Value × Value × Value × Value × Value × Value) 1 joins1.m21 (fun s_ => [(14, s_.1), (20, s_.2.1), (21, s_.2.2.1), (27, s_.2.2.2.1), (33, s_.2.2.2.2.1), (39, s_.2.2.2.2.2.1), (40, s_.2.2.2.2.2.2.1), (7, s_.2.2.2.2.2.2.2)]) (fun s_ w' => JQ w1 w' (q4 s_.2.1 s_.2.2.2.1 s_.2.2.2.2.1 s_.2.2.2.2.2.1) (q4 a b (List.replicate m0 0) (List.replicate m1 0)) s_.2.2.2.2.2.2.2 ∧ (s_.2.2.2.2.2.2.1 = Value.agg #[s_.2.1, s_.2.2.2.1, s_.2.2.2.2.1, s_.2.2.2.2.2.1]) ∧ (∃ b7, s_.2.2.2.2.2.2.2 = Value.pointer (some ⟨b7, 0, none⟩))) ?_ ?_
  · rintro ⟨s0, s6, s7, s13, s19, s25, s26, s27⟩ w' hF_
    have HQ := Aside0.mk (show JQ w1 w' (q4 s6 s13 s19 s25) (q4 a b (List.replicate m0 0) (List.replicate m1 0)) s27 ∧ (s26 = Value.agg #[s6, s13, s19, s25]) ∧ (∃ b7, s27 = Value.pointer (some ⟨b7, 0, none⟩)) from hF_)
    clear hF_ hHeld
    refine norm_ (a' := ?_) ?_ ?_
    rotate_left
    · simp only [putAll, Act.put, List.setIfInBounds_toArray, List.set_cons_zero, List.set_cons_succ]
      rfl
    refine one_ (i := 28) (N := none) joins1.m22 rfl rfl (one_of HT_.out (by kernel_rfl)) (by decide) (fun K hK => ?_)
    obtain ⟨A6, c6, e6⟩ := Kd.R_slice (HQ.out.1.row 0 (by omega))
    obtain ⟨A13, c13, e13⟩ := Kd.R_slice (HQ.out.1.row 1 (by omega))
    obtain ⟨A19, c19, e19⟩ := Kd.R_slice (HQ.out.1.row 2 (by omega))
    obtain ⟨A25, c25, e25⟩ := Kd.R_slice (HQ.out.1.row 3 (by omega))
    have f6 : s6 = .slice A6 a.length c6 := e6
    have f13 : s13 = .slice A13 b.length c13 := e13
    have f19 : s19 = .slice A19 (List.replicate m0 (0 : Int)).length c19 := e19
    have f25 : s25 = .slice A25 (List.replicate m1 (0 : Int)).length c25 := e25
    obtain ⟨b7, hb7⟩ : ∃ b7, s27 = Value.pointer (some ⟨b7, 0, none⟩) := HQ.out.2.2
    have hb26 : s26 = Value.agg #[s6, s13, s19, s25] := HQ.out.2.1
    have hcell := (HQ.out.1.box b7 hb7).1
    have hJS := JS.of HQ.out.1 hb7
    have hJS2 : JS w1 (w'.setRow b7 #[s6, s13, s19, s25]) b7 (q4 s6 s13 s19 s25) (q4 a b (List.replicate m0 0) (List.replicate m1 0)) := hJS
    clear hJS
    clear e6 e13 e19 e25 HQ
    subst hb7
    subst hb26
    subst f6
    subst f13
    subst f19
    subst f25
    rw [if_pos (by rfl)]
    refine wp_store_row 23 (.tmp 7) (.tmp 40) rfl b7 #[.slice A6 a.length c6, .slice A13 b.length c13, .slice A19 (List.replicate m0 (0 : Int)).length c19, .slice A25 (List.replicate m1 (0 : Int)).length c25] (by rfl) (by rfl) 23 _ hcell (by kernel_rfl) rfl (by simp [Value.oneCell']) ?_
    refine hK.out _ _ (HS.out _ hJS2.bel) (fun hHeld => ?_)
    clear hK K
    refine done_ (done_of HT_.out (by kernel_rfl)) ?_
    skip
    have hsl : ∀ v, v < 4 → ((q4 a b (List.replicate m0 (0 : Int)) (List.replicate m1 (0 : Int))) v).length ≤ 60 := by
      intro v hv
      match v, hv with
      | 0, _ => show a.length ≤ 60; omega
      | 1, _ => show b.length ≤ 60; omega
      | 2, _ => show (List.replicate m0 (0 : Int)).length ≤ 60; rw [List.length_replicate]; omega
      | 3, _ => show (List.replicate m1 (0 : Int)).length ≤ 60; rw [List.length_replicate]; omega
    have hs0 : ∀ v, v < 4 → ∀ x ∈ (q4 a b (List.replicate m0 (0 : Int)) (List.replicate m1 (0 : Int))) v, 0 ≤ x := by
      intro v hv x hx
      match v, hv, hx with
      | 0, _, hx => exact (hwa x hx).1
      | 1, _, hx => exact (hwb x hx).1
      | 2, _, hx => rw [List.eq_of_mem_replicate (show x ∈ List.replicate m0 (0 : Int) from hx)]; omega
      | 3, _, hx => rw [List.eq_of_mem_replicate (show x ∈ List.replicate m1 (0 : Int) from hx)]; omega
    obtain ⟨A, k, L, hj, e0, e1, e2, e3⟩ := JS.pack hJS2
    have hL : (∀ v, v < 4 → (L v).length ≤ 60) ∧ ∀ v, v < 4 → ∀ x ∈ L v, 0 ≤ x := by
      refine ⟨fun v hv => ?_, fun v hv => ?_⟩
      · have h := hsl v hv
        match v, hv, h with
        | 0, _, h => rw [e0]; exact h
        | 1, _, h => rw [e1]; exact h
        | 2, _, h => rw [e2]; exact h
        | 3, _, h => rw [e3]; exact h
      · have h := hs0 v hv
        match v, hv, h with
        | 0, _, h => rw [e0]; exact h
        | 1, _, h => rw [e1]; exact h
        | 2, _, h => rw [e2]; exact h
        | 3, _, h => rw [e3]; exact h
    have HJ := Aside0.mk hj
    have HL := Aside0.mk hL.1
    have HJN := Aside0.mk (join_all L hL.1 hL.2)
    have HB01 := Aside0.mk HB01.out
    clear hJS2 hj hcell HS HA HBb hcut0 hcut1 hJ0 hJ1 em0 em1 d0 d0b d1 d1b HT_ HW_ hHeld hsl hs0 hL e0 e1 e2 e3 hla hlb hwa hwb hM0 hM1 hm0k hm1k hm0 hm1
    generalize w'.setRow b7 _ = w2 at HJ ⊢
    have hu23 := Try.underlying23
    have hsz : (Try.prog.info? 23).map (·.size) = some 4 := by kernel_rfl
    go_wp2_with (first | (refine wpList_load_row rfl 23 (.tmp 7) rfl b7 rfl 23 #[.slice (A 0) (L 0).length (k 0), .slice (A 1) (L 1).length (k 1), .slice (A 2) (L 2).length (k 2), .slice (A 3) (L 3).length (k 3)] (0, 0) _ HJ.out.blk hu23 rfl hsz ?_) | (go_at_call 12; refine (version_Join.calls 20000 (A 0) (k 0) (L 0) (A 1) (k 1) (L 1) (A 2) (k 2) (L 2) (A 3) (k 3) (L 3) (jres L).1 (jres L).2 _ (HJ.out.at 0 (by omega)).2 (HJ.out.at 0 (by omega)).1 (HJ.out.at 1 (by omega)).2 (HJ.out.at 1 (by omega)).1 (HJ.out.at 2 (by omega)).2 (HJ.out.at 2 (by omega)).1 (HJ.out.at 3 (by omega)).2 (HJ.out.at 3 (by omega)).1 HJN.out).mono ?_; rintro e w3 ⟨vc, rfl, hc, hb⟩; have HC0 := Aside0.mk hc; have n0 := Aside0.mk (HJ.out.below hb); clear HJ hc hb; have HJ := n0; clear n0))
    obtain ⟨Ac, cc, ec⟩ := Kd.R_slice HC0.out
    subst ec
    obtain ⟨cl, hcl⟩ : ∃ cl, cl = (jres L).1 := ⟨_, rfl⟩
    obtain ⟨ce, hce⟩ : ∃ ce, ce = (jres L).2 := ⟨_, rfl⟩
    rw [← hcl] at HC0 ⊢
    rw [← hce]
    have HCL := Aside0.mk hcl
    have HCE := Aside0.mk hce
    have HC := HC0
    clear hcl hce HC0 HJN
    obtain ⟨nb, hnb⟩ : ∃ nb, nb = w2.heap.size := ⟨_, rfl⟩
    rw [← hnb] at HC
    clear hnb
    go_loopw [10, 11, 12] (fun v10 v11 v12 wr => ∃ (v : Nat), v12 = .int .i64 (v : Int) ∧ v ≤ 4 ∧ v10 = .bool (rg L v) ∧ v11 = .bool (lg L v) ∧ Aside0 (JS w1 wr b7 (fun i => .slice (A i) (L i).length (k i)) L) ∧ Aside0 (Kd.R (Kd.int .u8) 5 wr nb (fun _ => True) (.slice Ac cl.length cc) cl)) (fun _ _ v12 _ => 4 - (intOf v12).toNat)
    case atStart => exact ⟨0, by simp, by omega, rfl, rfl, HJ, HC⟩
    case round =>
      clear HJ HC
      obtain ⟨v, rfl, hv, rfl, rfl, HJ, HC⟩ := hrel
      by_cases h4 : v < 4
      · have h4b : decide ((v : Int) < 4) = true := decide_eq_true (by omega)
        have h4c : (v : Int) < 4 := by omega
        have hd := below_drew1 (Below.refl wr.heap.size wr)
        cases hr : rg L v with
        | true =>
          cases hl : lg L v with
          | true =>
            go_wp2_with fail
            have n0 := Aside0.mk (HJ.out.below hd)
            have n1 := Aside0.mk (Kd.R_below HC.out hd)
            clear HJ HC hd
            have HJ := n0
            have HC := n1
            clear n0 n1
            refine start_ (n := 20) (S := (fun w' => w'.cell? ⟨b7, v, none⟩ = some (.slice (A v) (L v).length (k v)) ∧ w'.cell? ⟨b7, 0, none⟩ = some (.slice (A 0) (L 0).length (k 0)))) (ds := []) #[false, false, false, false, false, false, false, false, false, false, false, false, false, false, false, false, false, false, false, false] (by kernel_rfl) rfl rfl ⟨HJ.out.cell v (by omega), HJ.out.cell 0 (by omega)⟩ (fun hHeld => ?_)
            refine with_tabW j7a.tab j7a.bits (fun HT_ HW_ => ?_)
            refine pure_ (i := 0) (N := some 50) (v := ?_) (a' := ?_) #[true, false, false, false, false, false, false, false, false, false, false, false, false, false, false, false, false, false, false, false] rfl rfl (any_of HT_.out (by kernel_rfl)) (fun _ _ _ h => h) (Or.inl ⟨by rfl, ?_⟩) ?_ ?_
            rotate_left
            · intro w'
              go_simp
              with_reducible rfl
            rotate_left
            · simp only [Act.put, List.setIfInBounds_toArray, List.set_cons_zero, List.set_cons_succ, i64_w, i32_w]
              rfl
            refine pure_ (i := 1) (N := some 51) (v := ?_) (a' := ?_) #[true, true, false, false, false, false, false, false, false, false, false, false, false, false, false, false, false, false, false, false] rfl rfl (any_of HT_.out (by kernel_rfl)) (fun _ _ _ h => h) (Or.inl ⟨by rfl, ?_⟩) ?_ ?_
            rotate_left
            · intro w'
              go_simp
              with_reducible rfl
            rotate_left
            · simp only [Act.put, List.setIfInBounds_toArray, List.set_cons_zero, List.set_cons_succ, i64_w, i32_w]
              rfl
            refine pure_ (i := 2) (N := some 52) (v := ?_) (a' := ?_) #[true, true, true, false, false, false, false, false, false, false, false, false, false, false, false, false, false, false, false, false] rfl rfl (any_of HT_.out (by kernel_rfl)) (fun _ _ _ h => h) (Or.inl ⟨by rfl, ?_⟩) ?_ ?_
            rotate_left
            · intro w'
              go_simp
              with_reducible rfl
            rotate_left
            · simp only [Act.put, List.setIfInBounds_toArray, List.set_cons_zero, List.set_cons_succ, i64_w, i32_w]
              rfl
            refine pure_ (i := 3) (N := some 53) (v := ?_) (a' := ?_) #[true, true, true, true, false, false, false, false, false, false, false, false, false, false, false, false, false, false, false, false] rfl rfl (any_of HT_.out (by kernel_rfl)) (fun _ _ _ h => h) (Or.inl ⟨by rfl, ?_⟩) ?_ ?_
            rotate_left
            · intro w'
              go_simp
              with_reducible rfl
            rotate_left
            · simp only [Act.put, List.setIfInBounds_toArray, List.set_cons_zero, List.set_cons_succ, i64_w, i32_w]
              rfl
            refine take_ (i := 4) (N := some 54) (v := ?_) (a' := ?_) #[true, true, true, true, true, false, false, false, false, false, false, false, false, false, false, false, false, false, false, false] rfl rfl (take_ofW HT_.out HW_.out (by kernel_rfl)) (fun _ _ _ h => h) (Or.inl ⟨by rfl, ?_⟩) hHeld ?_ ?_
            rotate_left
            · rintro w' ⟨s0, s1⟩
              go_simp
              with_reducible rfl
            rotate_left
            · simp only [Act.put, List.setIfInBounds_toArray, List.set_cons_zero, List.set_cons_succ, i64_w, i32_w]
              rfl
            refine pure_ (i := 7) (N := some 57) (v := ?_) (a' := ?_) #[true, true, true, true, true, false, false, true, false, false, false, false, false, false, false, false, false, false, false, false] rfl rfl (any_of HT_.out (by kernel_rfl)) (fun _ _ _ h => h) (Or.inl ⟨by rfl, ?_⟩) ?_ ?_
            rotate_left
            · intro w'
              go_simp
              with_reducible rfl
            rotate_left
            · simp only [Act.put, List.setIfInBounds_toArray, List.set_cons_zero, List.set_cons_succ, i64_w, i32_w]
              rfl
            refine one_ (i := 5) (N := some 55) #[true, true, true, true, true, true, false, true, false, false, false, false, false, false, false, false, false, false, false, false] rfl rfl (one_of HT_.out (by kernel_rfl)) (by decide) (fun K hK => ?_)
            refine goes_ Try.func10 (by kernel_rfl) rfl #[.slice (A v) (L v).length (k v)] (by rfl) rfl rfl (by (try simp only [List.map_toArray, List.map_cons, List.map_nil]); first | done | rfl | (go_simp; done) | simp [Act.eval]) ?_
            refine (shuttleref01_Right.calls 100 (A v) (k v) (L v) (!(L v).any big) _ (HJ.out.at v (by omega)).2 (HJ.out.at v (by omega)).1 (rright_f (L v) (by have := HL.out v (by omega); omega) 100 (by have := HL.out v (by omega); omega))).mono ?_
            rintro e w5 ⟨rfl, hd⟩
            have hb := hd.below
            have n0 := Aside0.mk (HJ.out.below hb)
            have n1 := Aside0.mk (Kd.R_below HC.out hb)
            clear HJ HC hb hd
            have HJ := n0
            have HC := n1
            clear n0 n1
            refine ⟨_, rfl, ?_⟩
            refine hK.out _ _ ⟨HJ.out.cell v (by omega), HJ.out.cell 0 (by omega)⟩ (fun hHeld => ?_)
            clear hK K
            refine norm_ (a' := ?_) ?_ ?_
            rotate_left
            · show Act.put _ (some 55) _ = _
              simp only [Act.put, List.setIfInBounds_toArray, List.set_cons_zero, List.set_cons_succ, i64_w, i32_w]
              rfl
            refine pure_ (i := 6) (N := some 56) (v := ?_) (a' := ?_) #[true, true, true, true, true, true, true, true, false, false, false, false, false, false, false, false, false, false, false, false] rfl rfl (any_of HT_.out (by kernel_rfl)) (fun _ _ _ h => h) (Or.inl ⟨by rfl, ?_⟩) ?_ ?_
            rotate_left
            · intro w'
              go_simp
              with_reducible rfl
            rotate_left
            · simp only [Act.put, List.setIfInBounds_toArray, List.set_cons_zero, List.set_cons_succ, i64_w, i32_w]
              rfl
            refine pure_ (i := 8) (N := some 58) (v := ?_) (a' := ?_) #[true, true, true, true, true, true, true, true, true, false, false, false, false, false, false, false, false, false, false, false] rfl rfl (any_of HT_.out (by kernel_rfl)) (fun _ _ _ h => h) (Or.inl ⟨by rfl, ?_⟩) ?_ ?_
            rotate_left
            · intro w'
              go_simp
              with_reducible rfl
            rotate_left
            · simp only [Act.put, List.setIfInBounds_toArray, List.set_cons_zero, List.set_cons_succ, i64_w, i32_w]
              rfl
            refine pure_ (i := 9) (N := some 59) (v := ?_) (a' := ?_) #[true, true, true, true, true, true, true, true, true, true, false, false, false, false, false, false, false, false, false, false] rfl rfl (any_of HT_.out (by kernel_rfl)) (fun _ _ _ h => h) (Or.inl ⟨by rfl, ?_⟩) ?_ ?_
            rotate_left
            · intro w'
              go_simp
              with_reducible rfl
            rotate_left
            · simp only [Act.put, List.setIfInBounds_toArray, List.set_cons_zero, List.set_cons_succ, i64_w, i32_w]
              rfl
            refine pure_ (i := 10) (N := some 60) (v := ?_) (a' := ?_) #[true, true, true, true, true, true, true, true, true, true, true, false, false, false, false, false, false, false, false, false] rfl rfl (any_of HT_.out (by kernel_rfl)) (fun _ _ _ h => h) (Or.inl ⟨by rfl, ?_⟩) ?_ ?_
            rotate_left
            · intro w'
              go_simp
              with_reducible rfl
            rotate_left
            · simp only [Act.put, List.setIfInBounds_toArray, List.set_cons_zero, List.set_cons_succ, i64_w, i32_w]
              rfl
            refine take_ (i := 11) (N := some 61) (v := ?_) (a' := ?_) #[true, true, true, true, true, true, true, true, true, true, true, true, false, false, false, false, false, false, false, false] rfl rfl (take_ofW HT_.out HW_.out (by kernel_rfl)) (fun _ _ _ h => h) (Or.inl ⟨by rfl, ?_⟩) hHeld ?_ ?_
            rotate_left
            · rintro w' ⟨s0, s1⟩
              go_simp
              with_reducible rfl
            rotate_left
            · simp only [Act.put, List.setIfInBounds_toArray, List.set_cons_zero, List.set_cons_succ, i64_w, i32_w]
              rfl
            refine pure_ (i := 12) (N := some 62) (v := ?_) (a' := ?_) #[true, true, true, true, true, true, true, true, true, true, true, true, true, false, false, false, false, false, false, false] rfl rfl (any_of HT_.out (by kernel_rfl)) (fun _ _ _ h => h) (Or.inl ⟨by rfl, ?_⟩) ?_ ?_
            rotate_left
            · intro w'
              go_simp
              with_reducible rfl
            rotate_left
            · simp only [Act.put, List.setIfInBounds_toArray, List.set_cons_zero, List.set_cons_succ, i64_w, i32_w]
              rfl
            refine pure_ (i := 13) (N := some 63) (v := ?_) (a' := ?_) #[true, true, true, true, true, true, true, true, true, true, true, true, true, true, false, false, false, false, false, false] rfl rfl (any_of HT_.out (by kernel_rfl)) (fun _ _ _ h => h) (Or.inl ⟨by rfl, ?_⟩) ?_ ?_
            rotate_left
            · intro w'
              go_simp
              with_reducible rfl
            rotate_left
            · simp only [Act.put, List.setIfInBounds_toArray, List.set_cons_zero, List.set_cons_succ, i64_w, i32_w]
              rfl
            refine take_ (i := 14) (N := some 64) (v := ?_) (a' := ?_) #[true, true, true, true, true, true, true, true, true, true, true, true, true, true, true, false, false, false, false, false] rfl rfl (take_ofW HT_.out HW_.out (by kernel_rfl)) (fun _ _ _ h => h) (Or.inl ⟨by rfl, ?_⟩) hHeld ?_ ?_
            rotate_left
            · rintro w' ⟨s0, s1⟩
              go_simp
              with_reducible rfl
            rotate_left
            · simp only [Act.put, List.setIfInBounds_toArray, List.set_cons_zero, List.set_cons_succ, i64_w, i32_w]
              rfl
            refine pure_ (i := 15) (N := some 65) (v := ?_) (a' := ?_) #[true, true, true, true, true, true, true, true, true, true, true, true, true, true, true, true, false, false, false, false] rfl rfl (any_of HT_.out (by kernel_rfl)) (fun _ _ _ h => h) (Or.inl ⟨by rfl, ?_⟩) ?_ ?_
            rotate_left
            · intro w'
              go_simp
              with_reducible rfl
            rotate_left
            · simp only [Act.put, List.setIfInBounds_toArray, List.set_cons_zero, List.set_cons_succ, i64_w, i32_w]
              rfl
            refine pure_ (i := 16) (N := some 66) (v := ?_) (a' := ?_) #[true, true, true, true, true, true, true, true, true, true, true, true, true, true, true, true, true, false, false, false] rfl rfl (any_of HT_.out (by kernel_rfl)) (fun _ _ _ h => h) (Or.inl ⟨by rfl, ?_⟩) ?_ ?_
            rotate_left
            · intro w'
              go_simp
              with_reducible rfl
            rotate_left
            · simp only [Act.put, List.setIfInBounds_toArray, List.set_cons_zero, List.set_cons_succ, i64_w, i32_w]
              rfl
            refine pure_ (i := 17) (N := some 67) (v := ?_) (a' := ?_) #[true, true, true, true, true, true, true, true, true, true, true, true, true, true, true, true, true, true, false, false] rfl rfl (any_of HT_.out (by kernel_rfl)) (fun _ _ _ h => h) (Or.inl ⟨by rfl, ?_⟩) ?_ ?_
            rotate_left
            · intro w'
              go_simp
              with_reducible rfl
            rotate_left
            · simp only [Act.put, List.setIfInBounds_toArray, List.set_cons_zero, List.set_cons_succ, i64_w, i32_w]
              rfl
            refine pure_ (i := 18) (N := some 10) (v := ?_) (a' := ?_) #[true, true, true, true, true, true, true, true, true, true, true, true, true, true, true, true, true, true, true, false] rfl rfl (any_of HT_.out (by kernel_rfl)) (fun _ _ _ h => h) (Or.inl ⟨by rfl, ?_⟩) ?_ ?_
            rotate_left
            · intro w'
              go_simp
              with_reducible rfl
            rotate_left
            · simp only [Act.put, List.setIfInBounds_toArray, List.set_cons_zero, List.set_cons_succ, i64_w, i32_w]
              rfl
            refine pure_ (i := 19) (N := some 11) (v := ?_) (a' := ?_) #[true, true, true, true, true, true, true, true, true, true, true, true, true, true, true, true, true, true, true, true] rfl rfl (any_of HT_.out (by kernel_rfl)) (fun _ _ _ h => h) (Or.inl ⟨by rfl, ?_⟩) ?_ ?_
            rotate_left
            · intro w'
              go_simp
              with_reducible rfl
            rotate_left
            · simp only [Act.put, List.setIfInBounds_toArray, List.set_cons_zero, List.set_cons_succ, i64_w, i32_w]
              rfl
            refine done_ (done_of HT_.out (by kernel_rfl)) ?_
            go_wp2
            go_roundw
            case rel => exact ⟨v + 1, by simp, by omega, by simp [rg, hr], by simp [lg, hl], HJ, HC⟩
            case measure => simp [intOf]; omega
          | false =>
            go_wp2_with fail
            have n0 := Aside0.mk (HJ.out.below hd)
            have n1 := Aside0.mk (Kd.R_below HC.out hd)
            clear HJ HC hd
            have HJ := n0
            have HC := n1
            clear n0 n1
            refine start_ (n := 20) (S := (fun w' => w'.cell? ⟨b7, v, none⟩ = some (.slice (A v) (L v).length (k v)) ∧ w'.cell? ⟨b7, 0, none⟩ = some (.slice (A 0) (L 0).length (k 0)))) (ds := []) #[false, false, false, false, false, false, false, false, false, false, false, false, false, false, false, false, false, false, false, false] (by kernel_rfl) rfl rfl ⟨HJ.out.cell v (by omega), HJ.out.cell 0 (by omega)⟩ (fun hHeld => ?_)
            refine with_tabW j7b.tab j7b.bits (fun HT_ HW_ => ?_)
            refine pure_ (i := 0) (N := some 50) (v := ?_) (a' := ?_) #[true, false, false, false, false, false, false, false, false, false, false, false, false, false, false, false, false, false, false, false] rfl rfl (any_of HT_.out (by kernel_rfl)) (fun _ _ _ h => h) (Or.inl ⟨by rfl, ?_⟩) ?_ ?_
            rotate_left
            · intro w'
              go_simp
              with_reducible rfl
            rotate_left
            · simp only [Act.put, List.setIfInBounds_toArray, List.set_cons_zero, List.set_cons_succ, i64_w, i32_w]
              rfl
            refine pure_ (i := 1) (N := some 51) (v := ?_) (a' := ?_) #[true, true, false, false, false, false, false, false, false, false, false, false, false, false, false, false, false, false, false, false] rfl rfl (any_of HT_.out (by kernel_rfl)) (fun _ _ _ h => h) (Or.inl ⟨by rfl, ?_⟩) ?_ ?_
            rotate_left
            · intro w'
              go_simp
              with_reducible rfl
            rotate_left
            · simp only [Act.put, List.setIfInBounds_toArray, List.set_cons_zero, List.set_cons_succ, i64_w, i32_w]
              rfl
            refine pure_ (i := 2) (N := some 52) (v := ?_) (a' := ?_) #[true, true, true, false, false, false, false, false, false, false, false, false, false, false, false, false, false, false, false, false] rfl rfl (any_of HT_.out (by kernel_rfl)) (fun _ _ _ h => h) (Or.inl ⟨by rfl, ?_⟩) ?_ ?_
            rotate_left
            · intro w'
              go_simp
              with_reducible rfl
            rotate_left
            · simp only [Act.put, List.setIfInBounds_toArray, List.set_cons_zero, List.set_cons_succ, i64_w, i32_w]
              rfl
            refine pure_ (i := 3) (N := some 53) (v := ?_) (a' := ?_) #[true, true, true, true, false, false, false, false, false, false, false, false, false, false, false, false, false, false, false, false] rfl rfl (any_of HT_.out (by kernel_rfl)) (fun _ _ _ h => h) (Or.inl ⟨by rfl, ?_⟩) ?_ ?_
            rotate_left
            · intro w'
              go_simp
              with_reducible rfl
            rotate_left
            · simp only [Act.put, List.setIfInBounds_toArray, List.set_cons_zero, List.set_cons_succ, i64_w, i32_w]
              rfl
            refine take_ (i := 4) (N := some 54) (v := ?_) (a' := ?_) #[true, true, true, true, true, false, false, false, false, false, false, false, false, false, false, false, false, false, false, false] rfl rfl (take_ofW HT_.out HW_.out (by kernel_rfl)) (fun _ _ _ h => h) (Or.inl ⟨by rfl, ?_⟩) hHeld ?_ ?_
            rotate_left
            · rintro w' ⟨s0, s1⟩
              go_simp
              with_reducible rfl
            rotate_left
            · simp only [Act.put, List.setIfInBounds_toArray, List.set_cons_zero, List.set_cons_succ, i64_w, i32_w]
              rfl
            refine pure_ (i := 7) (N := some 57) (v := ?_) (a' := ?_) #[true, true, true, true, true, false, false, true, false, false, false, false, false, false, false, false, false, false, false, false] rfl rfl (any_of HT_.out (by kernel_rfl)) (fun _ _ _ h => h) (Or.inl ⟨by rfl, ?_⟩) ?_ ?_
            rotate_left
            · intro w'
              go_simp
              with_reducible rfl
            rotate_left
            · simp only [Act.put, List.setIfInBounds_toArray, List.set_cons_zero, List.set_cons_succ, i64_w, i32_w]
              rfl
            refine one_ (i := 5) (N := some 55) #[true, true, true, true, true, true, false, true, false, false, false, false, false, false, false, false, false, false, false, false] rfl rfl (one_of HT_.out (by kernel_rfl)) (by decide) (fun K hK => ?_)
            refine goes_ Try.func10 (by kernel_rfl) rfl #[.slice (A v) (L v).length (k v)] (by rfl) rfl rfl (by (try simp only [List.map_toArray, List.map_cons, List.map_nil]); first | done | rfl | (go_simp; done) | simp [Act.eval]) ?_
            refine (shuttleref01_Right.calls 100 (A v) (k v) (L v) (!(L v).any big) _ (HJ.out.at v (by omega)).2 (HJ.out.at v (by omega)).1 (rright_f (L v) (by have := HL.out v (by omega); omega) 100 (by have := HL.out v (by omega); omega))).mono ?_
            rintro e w5 ⟨rfl, hd⟩
            have hb := hd.below
            have n0 := Aside0.mk (HJ.out.below hb)
            have n1 := Aside0.mk (Kd.R_below HC.out hb)
            clear HJ HC hb hd
            have HJ := n0
            have HC := n1
            clear n0 n1
            refine ⟨_, rfl, ?_⟩
            refine hK.out _ _ ⟨HJ.out.cell v (by omega), HJ.out.cell 0 (by omega)⟩ (fun hHeld => ?_)
            clear hK K
            refine norm_ (a' := ?_) ?_ ?_
            rotate_left
            · show Act.put _ (some 55) _ = _
              simp only [Act.put, List.setIfInBounds_toArray, List.set_cons_zero, List.set_cons_succ, i64_w, i32_w]
              rfl
            refine pure_ (i := 6) (N := some 56) (v := ?_) (a' := ?_) #[true, true, true, true, true, true, true, true, false, false, false, false, false, false, false, false, false, false, false, false] rfl rfl (any_of HT_.out (by kernel_rfl)) (fun _ _ _ h => h) (Or.inl ⟨by rfl, ?_⟩) ?_ ?_
            rotate_left
            · intro w'
              go_simp
              with_reducible rfl
            rotate_left
            · simp only [Act.put, List.setIfInBounds_toArray, List.set_cons_zero, List.set_cons_succ, i64_w, i32_w]
              rfl
            refine pure_ (i := 8) (N := some 58) (v := ?_) (a' := ?_) #[true, true, true, true, true, true, true, true, true, false, false, false, false, false, false, false, false, false, false, false] rfl rfl (any_of HT_.out (by kernel_rfl)) (fun _ _ _ h => h) (Or.inl ⟨by rfl, ?_⟩) ?_ ?_
            rotate_left
            · intro w'
              go_simp
              with_reducible rfl
            rotate_left
            · simp only [Act.put, List.setIfInBounds_toArray, List.set_cons_zero, List.set_cons_succ, i64_w, i32_w]
              rfl
            refine pure_ (i := 9) (N := some 59) (v := undef) (a' := ?_) #[true, true, true, true, true, true, true, true, true, true, false, false, false, false, false, false, false, false, false, false] rfl rfl (any_of HT_.out (by kernel_rfl)) (fun _ _ _ h => h) (Or.inr ⟨by rfl, rfl⟩) ?_ ?_
            rotate_left
            · simp only [Act.put, List.setIfInBounds_toArray, List.set_cons_zero, List.set_cons_succ, i64_w, i32_w]
              rfl
            refine pure_ (i := 10) (N := some 60) (v := undef) (a' := ?_) #[true, true, true, true, true, true, true, true, true, true, true, false, false, false, false, false, false, false, false, false] rfl rfl (any_of HT_.out (by kernel_rfl)) (fun _ _ _ h => h) (Or.inr ⟨by rfl, rfl⟩) ?_ ?_
            rotate_left
            · simp only [Act.put, List.setIfInBounds_toArray, List.set_cons_zero, List.set_cons_succ, i64_w, i32_w]
              rfl
            refine pure_ (i := 11) (N := some 61) (v := undef) (a' := ?_) #[true, true, true, true, true, true, true, true, true, true, true, true, false, false, false, false, false, false, false, false] rfl rfl (any_of HT_.out (by kernel_rfl)) (fun _ _ _ h => h) (Or.inr ⟨by rfl, rfl⟩) ?_ ?_
            rotate_left
            · simp only [Act.put, List.setIfInBounds_toArray, List.set_cons_zero, List.set_cons_succ, i64_w, i32_w]
              rfl
            refine pure_ (i := 12) (N := some 62) (v := undef) (a' := ?_) #[true, true, true, true, true, true, true, true, true, true, true, true, true, false, false, false, false, false, false, false] rfl rfl (any_of HT_.out (by kernel_rfl)) (fun _ _ _ h => h) (Or.inr ⟨by rfl, rfl⟩) ?_ ?_
            rotate_left
            · simp only [Act.put, List.setIfInBounds_toArray, List.set_cons_zero, List.set_cons_succ, i64_w, i32_w]
              rfl
            refine pure_ (i := 13) (N := some 63) (v := undef) (a' := ?_) #[true, true, true, true, true, true, true, true, true, true, true, true, true, true, false, false, false, false, false, false] rfl rfl (any_of HT_.out (by kernel_rfl)) (fun _ _ _ h => h) (Or.inr ⟨by rfl, rfl⟩) ?_ ?_
            rotate_left
            · simp only [Act.put, List.setIfInBounds_toArray, List.set_cons_zero, List.set_cons_succ, i64_w, i32_w]
              rfl
            refine pure_ (i := 14) (N := some 64) (v := undef) (a' := ?_) #[true, true, true, true, true, true, true, true, true, true, true, true, true, true, true, false, false, false, false, false] rfl rfl (any_of HT_.out (by kernel_rfl)) (fun _ _ _ h => h) (Or.inr ⟨by rfl, rfl⟩) ?_ ?_
            rotate_left
            · simp only [Act.put, List.setIfInBounds_toArray, List.set_cons_zero, List.set_cons_succ, i64_w, i32_w]
              rfl
            refine pure_ (i := 15) (N := some 65) (v := undef) (a' := ?_) #[true, true, true, true, true, true, true, true, true, true, true, true, true, true, true, true, false, false, false, false] rfl rfl (any_of HT_.out (by kernel_rfl)) (fun _ _ _ h => h) (Or.inr ⟨by rfl, rfl⟩) ?_ ?_
            rotate_left
            · simp only [Act.put, List.setIfInBounds_toArray, List.set_cons_zero, List.set_cons_succ, i64_w, i32_w]
              rfl
            refine pure_ (i := 16) (N := some 66) (v := undef) (a' := ?_) #[true, true, true, true, true, true, true, true, true, true, true, true, true, true, true, true, true, false, false, false] rfl rfl (any_of HT_.out (by kernel_rfl)) (fun _ _ _ h => h) (Or.inr ⟨by rfl, rfl⟩) ?_ ?_
            rotate_left
            · simp only [Act.put, List.setIfInBounds_toArray, List.set_cons_zero, List.set_cons_succ, i64_w, i32_w]
              rfl
            refine pure_ (i := 17) (N := some 67) (v := ?_) (a' := ?_) #[true, true, true, true, true, true, true, true, true, true, true, true, true, true, true, true, true, true, false, false] rfl rfl (any_of HT_.out (by kernel_rfl)) (fun _ _ _ h => h) (Or.inl ⟨by rfl, ?_⟩) ?_ ?_
            rotate_left
            · intro w'
              go_simp
              with_reducible rfl
            rotate_left
            · simp only [Act.put, List.setIfInBounds_toArray, List.set_cons_zero, List.set_cons_succ, i64_w, i32_w]
              rfl
            refine pure_ (i := 18) (N := some 10) (v := ?_) (a' := ?_) #[true, true, true, true, true, true, true, true, true, true, true, true, true, true, true, true, true, true, true, false] rfl rfl (any_of HT_.out (by kernel_rfl)) (fun _ _ _ h => h) (Or.inl ⟨by rfl, ?_⟩) ?_ ?_
            rotate_left
            · intro w'
              go_simp
              with_reducible rfl
            rotate_left
            · simp only [Act.put, List.setIfInBounds_toArray, List.set_cons_zero, List.set_cons_succ, i64_w, i32_w]
              rfl
            refine pure_ (i := 19) (N := some 11) (v := ?_) (a' := ?_) #[true, true, true, true, true, true, true, true, true, true, true, true, true, true, true, true, true, true, true, true] rfl rfl (any_of HT_.out (by kernel_rfl)) (fun _ _ _ h => h) (Or.inl ⟨by rfl, ?_⟩) ?_ ?_
            rotate_left
            · intro w'
              go_simp
              with_reducible rfl
            rotate_left
            · simp only [Act.put, List.setIfInBounds_toArray, List.set_cons_zero, List.set_cons_succ, i64_w, i32_w]
              rfl
            refine done_ (done_of HT_.out (by kernel_rfl)) ?_
            go_wp2
            go_roundw
            case rel => exact ⟨v + 1, by simp, by omega, by simp [rg, hr], by simp [lg, hl], HJ, HC⟩
            case measure => simp [intOf]; omega
        | false =>
          cases hl : lg L v with
          | true =>
            go_wp2_with fail
            have n0 := Aside0.mk (HJ.out.below hd)
            have n1 := Aside0.mk (Kd.R_below HC.out hd)
            clear HJ HC hd
            have HJ := n0
            have HC := n1
            clear n0 n1
            refine start_ (n := 20) (S := (fun w' => w'.cell? ⟨b7, v, none⟩ = some (.slice (A v) (L v).length (k v)) ∧ w'.cell? ⟨b7, 0, none⟩ = some (.slice (A 0) (L 0).length (k 0)))) (ds := []) #[false, false, false, false, false, false, false, false, false, false, false, false, false, false, false, false, false, false, false, false] (by kernel_rfl) rfl rfl ⟨HJ.out.cell v (by omega), HJ.out.cell 0 (by omega)⟩ (fun hHeld => ?_)
            refine with_tabW j7c.tab j7c.bits (fun HT_ HW_ => ?_)
            refine pure_ (i := 0) (N := some 50) (v := ?_) (a' := ?_) #[true, false, false, false, false, false, false, false, false, false, false, false, false, false, false, false, false, false, false, false] rfl rfl (any_of HT_.out (by kernel_rfl)) (fun _ _ _ h => h) (Or.inl ⟨by rfl, ?_⟩) ?_ ?_
            rotate_left
            · intro w'
              go_simp
              with_reducible rfl
            rotate_left
            · simp only [Act.put, List.setIfInBounds_toArray, List.set_cons_zero, List.set_cons_succ, i64_w, i32_w]
              rfl
            refine pure_ (i := 1) (N := some 51) (v := ?_) (a' := ?_) #[true, true, false, false, false, false, false, false, false, false, false, false, false, false, false, false, false, false, false, false] rfl rfl (any_of HT_.out (by kernel_rfl)) (fun _ _ _ h => h) (Or.inl ⟨by rfl, ?_⟩) ?_ ?_
            rotate_left
            · intro w'
              go_simp
              with_reducible rfl
            rotate_left
            · simp only [Act.put, List.setIfInBounds_toArray, List.set_cons_zero, List.set_cons_succ, i64_w, i32_w]
              rfl
            refine pure_ (i := 2) (N := some 52) (v := undef) (a' := ?_) #[true, true, true, false, false, false, false, false, false, false, false, false, false, false, false, false, false, false, false, false] rfl rfl (any_of HT_.out (by kernel_rfl)) (fun _ _ _ h => h) (Or.inr ⟨by rfl, rfl⟩) ?_ ?_
            rotate_left
            · simp only [Act.put, List.setIfInBounds_toArray, List.set_cons_zero, List.set_cons_succ, i64_w, i32_w]
              rfl
            refine pure_ (i := 3) (N := some 53) (v := undef) (a' := ?_) #[true, true, true, true, false, false, false, false, false, false, false, false, false, false, false, false, false, false, false, false] rfl rfl (any_of HT_.out (by kernel_rfl)) (fun _ _ _ h => h) (Or.inr ⟨by rfl, rfl⟩) ?_ ?_
            rotate_left
            · simp only [Act.put, List.setIfInBounds_toArray, List.set_cons_zero, List.set_cons_succ, i64_w, i32_w]
              rfl
            refine pure_ (i := 4) (N := some 54) (v := undef) (a' := ?_) #[true, true, true, true, true, false, false, false, false, false, false, false, false, false, false, false, false, false, false, false] rfl rfl (any_of HT_.out (by kernel_rfl)) (fun _ _ _ h => h) (Or.inr ⟨by rfl, rfl⟩) ?_ ?_
            rotate_left
            · simp only [Act.put, List.setIfInBounds_toArray, List.set_cons_zero, List.set_cons_succ, i64_w, i32_w]
              rfl
            refine pure_ (i := 5) (N := some 55) (v := undef) (a' := ?_) #[true, true, true, true, true, true, false, false, false, false, false, false, false, false, false, false, false, false, false, false] rfl rfl (any_of HT_.out (by kernel_rfl)) (fun _ _ _ h => h) (Or.inr ⟨by rfl, rfl⟩) ?_ ?_
            rotate_left
            · simp only [Act.put, List.setIfInBounds_toArray, List.set_cons_zero, List.set_cons_succ, i64_w, i32_w]
              rfl
            refine pure_ (i := 6) (N := some 56) (v := ?_) (a' := ?_) #[true, true, true, true, true, true, true, false, false, false, false, false, false, false, false, false, false, false, false, false] rfl rfl (any_of HT_.out (by kernel_rfl)) (fun _ _ _ h => h) (Or.inl ⟨by rfl, ?_⟩) ?_ ?_
            rotate_left
            · intro w'
              go_simp
              with_reducible rfl
            rotate_left
            · simp only [Act.put, List.setIfInBounds_toArray, List.set_cons_zero, List.set_cons_succ, i64_w, i32_w]
              rfl
            refine pure_ (i := 7) (N := some 57) (v := ?_) (a' := ?_) #[true, true, true, true, true, true, true, true, false, false, false, false, false, false, false, false, false, false, false, false] rfl rfl (any_of HT_.out (by kernel_rfl)) (fun _ _ _ h => h) (Or.inl ⟨by rfl, ?_⟩) ?_ ?_
            rotate_left
            · intro w'
              go_simp
              with_reducible rfl
            rotate_left
            · simp only [Act.put, List.setIfInBounds_toArray, List.set_cons_zero, List.set_cons_succ, i64_w, i32_w]
              rfl
            refine pure_ (i := 8) (N := some 58) (v := ?_) (a' := ?_) #[true, true, true, true, true, true, true, true, true, false, false, false, false, false, false, false, false, false, false, false] rfl rfl (any_of HT_.out (by kernel_rfl)) (fun _ _ _ h => h) (Or.inl ⟨by rfl, ?_⟩) ?_ ?_
            rotate_left
            · intro w'
              go_simp
              with_reducible rfl
            rotate_left
            · simp only [Act.put, List.setIfInBounds_toArray, List.set_cons_zero, List.set_cons_succ, i64_w, i32_w]
              rfl
            refine pure_ (i := 9) (N := some 59) (v := ?_) (a' := ?_) #[true, true, true, true, true, true, true, true, true, true, false, false, false, false, false, false, false, false, false, false] rfl rfl (any_of HT_.out (by kernel_rfl)) (fun _ _ _ h => h) (Or.inl ⟨by rfl, ?_⟩) ?_ ?_
            rotate_left
            · intro w'
              go_simp
              with_reducible rfl
            rotate_left
            · simp only [Act.put, List.setIfInBounds_toArray, List.set_cons_zero, List.set_cons_succ, i64_w, i32_w]
              rfl
            refine pure_ (i := 10) (N := some 60) (v := ?_) (a' := ?_) #[true, true, true, true, true, true, true, true, true, true, true, false, false, false, false, false, false, false, false, false] rfl rfl (any_of HT_.out (by kernel_rfl)) (fun _ _ _ h => h) (Or.inl ⟨by rfl, ?_⟩) ?_ ?_
            rotate_left
            · intro w'
              go_simp
              with_reducible rfl
            rotate_left
            · simp only [Act.put, List.setIfInBounds_toArray, List.set_cons_zero, List.set_cons_succ, i64_w, i32_w]
              rfl
            refine take_ (i := 11) (N := some 61) (v := ?_) (a' := ?_) #[true, true, true, true, true, true, true, true, true, true, true, true, false, false, false, false, false, false, false, false] rfl rfl (take_ofW HT_.out HW_.out (by kernel_rfl)) (fun _ _ _ h => h) (Or.inl ⟨by rfl, ?_⟩) hHeld ?_ ?_
            rotate_left
            · rintro w' ⟨s0, s1⟩
              go_simp
              with_reducible rfl
            rotate_left
            · simp only [Act.put, List.setIfInBounds_toArray, List.set_cons_zero, List.set_cons_succ, i64_w, i32_w]
              rfl
            refine pure_ (i := 12) (N := some 62) (v := ?_) (a' := ?_) #[true, true, true, true, true, true, true, true, true, true, true, true, true, false, false, false, false, false, false, false] rfl rfl (any_of HT_.out (by kernel_rfl)) (fun _ _ _ h => h) (Or.inl ⟨by rfl, ?_⟩) ?_ ?_
            rotate_left
            · intro w'
              go_simp
              with_reducible rfl
            rotate_left
            · simp only [Act.put, List.setIfInBounds_toArray, List.set_cons_zero, List.set_cons_succ, i64_w, i32_w]
              rfl
            refine pure_ (i := 13) (N := some 63) (v := ?_) (a' := ?_) #[true, true, true, true, true, true, true, true, true, true, true, true, true, true, false, false, false, false, false, false] rfl rfl (any_of HT_.out (by kernel_rfl)) (fun _ _ _ h => h) (Or.inl ⟨by rfl, ?_⟩) ?_ ?_
            rotate_left
            · intro w'
              go_simp
              with_reducible rfl
            rotate_left
            · simp only [Act.put, List.setIfInBounds_toArray, List.set_cons_zero, List.set_cons_succ, i64_w, i32_w]
              rfl
            refine take_ (i := 14) (N := some 64) (v := ?_) (a' := ?_) #[true, true, true, true, true, true, true, true, true, true, true, true, true, true, true, false, false, false, false, false] rfl rfl (take_ofW HT_.out HW_.out (by kernel_rfl)) (fun _ _ _ h => h) (Or.inl ⟨by rfl, ?_⟩) hHeld ?_ ?_
            rotate_left
            · rintro w' ⟨s0, s1⟩
              go_simp
              with_reducible rfl
            rotate_left
            · simp only [Act.put, List.setIfInBounds_toArray, List.set_cons_zero, List.set_cons_succ, i64_w, i32_w]
              rfl
            refine pure_ (i := 15) (N := some 65) (v := ?_) (a' := ?_) #[true, true, true, true, true, true, true, true, true, true, true, true, true, true, true, true, false, false, false, false] rfl rfl (any_of HT_.out (by kernel_rfl)) (fun _ _ _ h => h) (Or.inl ⟨by rfl, ?_⟩) ?_ ?_
            rotate_left
            · intro w'
              go_simp
              with_reducible rfl
            rotate_left
            · simp only [Act.put, List.setIfInBounds_toArray, List.set_cons_zero, List.set_cons_succ, i64_w, i32_w]
              rfl
            refine pure_ (i := 16) (N := some 66) (v := ?_) (a' := ?_) #[true, true, true, true, true, true, true, true, true, true, true, true, true, true, true, true, true, false, false, false] rfl rfl (any_of HT_.out (by kernel_rfl)) (fun _ _ _ h => h) (Or.inl ⟨by rfl, ?_⟩) ?_ ?_
            rotate_left
            · intro w'
              go_simp
              with_reducible rfl
            rotate_left
            · simp only [Act.put, List.setIfInBounds_toArray, List.set_cons_zero, List.set_cons_succ, i64_w, i32_w]
              rfl
            refine pure_ (i := 17) (N := some 67) (v := ?_) (a' := ?_) #[true, true, true, true, true, true, true, true, true, true, true, true, true, true, true, true, true, true, false, false] rfl rfl (any_of HT_.out (by kernel_rfl)) (fun _ _ _ h => h) (Or.inl ⟨by rfl, ?_⟩) ?_ ?_
            rotate_left
            · intro w'
              go_simp
              with_reducible rfl
            rotate_left
            · simp only [Act.put, List.setIfInBounds_toArray, List.set_cons_zero, List.set_cons_succ, i64_w, i32_w]
              rfl
            refine pure_ (i := 18) (N := some 10) (v := ?_) (a' := ?_) #[true, true, true, true, true, true, true, true, true, true, true, true, true, true, true, true, true, true, true, false] rfl rfl (any_of HT_.out (by kernel_rfl)) (fun _ _ _ h => h) (Or.inl ⟨by rfl, ?_⟩) ?_ ?_
            rotate_left
            · intro w'
              go_simp
              with_reducible rfl
            rotate_left
            · simp only [Act.put, List.setIfInBounds_toArray, List.set_cons_zero, List.set_cons_succ, i64_w, i32_w]
              rfl
            refine pure_ (i := 19) (N := some 11) (v := ?_) (a' := ?_) #[true, true, true, true, true, true, true, true, true, true, true, true, true, true, true, true, true, true, true, true] rfl rfl (any_of HT_.out (by kernel_rfl)) (fun _ _ _ h => h) (Or.inl ⟨by rfl, ?_⟩) ?_ ?_
            rotate_left
            · intro w'
              go_simp
              with_reducible rfl
            rotate_left
            · simp only [Act.put, List.setIfInBounds_toArray, List.set_cons_zero, List.set_cons_succ, i64_w, i32_w]
              rfl
            refine done_ (done_of HT_.out (by kernel_rfl)) ?_
            go_wp2
            go_roundw
            case rel => exact ⟨v + 1, by simp, by omega, by simp [rg, hr], by simp [lg, hl], HJ, HC⟩
            case measure => simp [intOf]; omega
          | false =>
            go_wp2_with fail
            have n0 := Aside0.mk (HJ.out.below hd)
            have n1 := Aside0.mk (Kd.R_below HC.out hd)
            clear HJ HC hd
            have HJ := n0
            have HC := n1
            clear n0 n1
            refine start_ (n := 20) (S := (fun w' => w'.cell? ⟨b7, v, none⟩ = some (.slice (A v) (L v).length (k v)) ∧ w'.cell? ⟨b7, 0, none⟩ = some (.slice (A 0) (L 0).length (k 0)))) (ds := []) #[false, false, false, false, false, false, false, false, false, false, false, false, false, false, false, false, false, false, false, false] (by kernel_rfl) rfl rfl ⟨HJ.out.cell v (by omega), HJ.out.cell 0 (by omega)⟩ (fun hHeld => ?_)
            refine with_tabW j7d.tab j7d.bits (fun HT_ HW_ => ?_)
            refine pure_ (i := 0) (N := some 50) (v := ?_) (a' := ?_) #[true, false, false, false, false, false, false, false, false, false, false, false, false, false, false, false, false, false, false, false] rfl rfl (any_of HT_.out (by kernel_rfl)) (fun _ _ _ h => h) (Or.inl ⟨by rfl, ?_⟩) ?_ ?_
            rotate_left
            · intro w'
              go_simp
              with_reducible rfl
            rotate_left
            · simp only [Act.put, List.setIfInBounds_toArray, List.set_cons_zero, List.set_cons_succ, i64_w, i32_w]
              rfl
            refine pure_ (i := 1) (N := some 51) (v := ?_) (a' := ?_) #[true, true, false, false, false, false, false, false, false, false, false, false, false, false, false, false, false, false, false, false] rfl rfl (any_of HT_.out (by kernel_rfl)) (fun _ _ _ h => h) (Or.inl ⟨by rfl, ?_⟩) ?_ ?_
            rotate_left
            · intro w'
              go_simp
              with_reducible rfl
            rotate_left
            · simp only [Act.put, List.setIfInBounds_toArray, List.set_cons_zero, List.set_cons_succ, i64_w, i32_w]
              rfl
            refine pure_ (i := 2) (N := some 52) (v := undef) (a' := ?_) #[true, true, true, false, false, false, false, false, false, false, false, false, false, false, false, false, false, false, false, false] rfl rfl (any_of HT_.out (by kernel_rfl)) (fun _ _ _ h => h) (Or.inr ⟨by rfl, rfl⟩) ?_ ?_
            rotate_left
            · simp only [Act.put, List.setIfInBounds_toArray, List.set_cons_zero, List.set_cons_succ, i64_w, i32_w]
              rfl
            refine pure_ (i := 3) (N := some 53) (v := undef) (a' := ?_) #[true, true, true, true, false, false, false, false, false, false, false, false, false, false, false, false, false, false, false, false] rfl rfl (any_of HT_.out (by kernel_rfl)) (fun _ _ _ h => h) (Or.inr ⟨by rfl, rfl⟩) ?_ ?_
            rotate_left
            · simp only [Act.put, List.setIfInBounds_toArray, List.set_cons_zero, List.set_cons_succ, i64_w, i32_w]
              rfl
            refine pure_ (i := 4) (N := some 54) (v := undef) (a' := ?_) #[true, true, true, true, true, false, false, false, false, false, false, false, false, false, false, false, false, false, false, false] rfl rfl (any_of HT_.out (by kernel_rfl)) (fun _ _ _ h => h) (Or.inr ⟨by rfl, rfl⟩) ?_ ?_
            rotate_left
            · simp only [Act.put, List.setIfInBounds_toArray, List.set_cons_zero, List.set_cons_succ, i64_w, i32_w]
              rfl
            refine pure_ (i := 5) (N := some 55) (v := undef) (a' := ?_) #[true, true, true, true, true, true, false, false, false, false, false, false, false, false, false, false, false, false, false, false] rfl rfl (any_of HT_.out (by kernel_rfl)) (fun _ _ _ h => h) (Or.inr ⟨by rfl, rfl⟩) ?_ ?_
            rotate_left
            · simp only [Act.put, List.setIfInBounds_toArray, List.set_cons_zero, List.set_cons_succ, i64_w, i32_w]
              rfl
            refine pure_ (i := 6) (N := some 56) (v := ?_) (a' := ?_) #[true, true, true, true, true, true, true, false, false, false, false, false, false, false, false, false, false, false, false, false] rfl rfl (any_of HT_.out (by kernel_rfl)) (fun _ _ _ h => h) (Or.inl ⟨by rfl, ?_⟩) ?_ ?_
            rotate_left
            · intro w'
              go_simp
              with_reducible rfl
            rotate_left
            · simp only [Act.put, List.setIfInBounds_toArray, List.set_cons_zero, List.set_cons_succ, i64_w, i32_w]
              rfl
            refine pure_ (i := 7) (N := some 57) (v := ?_) (a' := ?_) #[true, true, true, true, true, true, true, true, false, false, false, false, false, false, false, false, false, false, false, false] rfl rfl (any_of HT_.out (by kernel_rfl)) (fun _ _ _ h => h) (Or.inl ⟨by rfl, ?_⟩) ?_ ?_
            rotate_left
            · intro w'
              go_simp
              with_reducible rfl
            rotate_left
            · simp only [Act.put, List.setIfInBounds_toArray, List.set_cons_zero, List.set_cons_succ, i64_w, i32_w]
              rfl
            refine pure_ (i := 8) (N := some 58) (v := ?_) (a' := ?_) #[true, true, true, true, true, true, true, true, true, false, false, false, false, false, false, false, false, false, false, false] rfl rfl (any_of HT_.out (by kernel_rfl)) (fun _ _ _ h => h) (Or.inl ⟨by rfl, ?_⟩) ?_ ?_
            rotate_left
            · intro w'
              go_simp
              with_reducible rfl
            rotate_left
            · simp only [Act.put, List.setIfInBounds_toArray, List.set_cons_zero, List.set_cons_succ, i64_w, i32_w]
              rfl
            refine pure_ (i := 9) (N := some 59) (v := undef) (a' := ?_) #[true, true, true, true, true, true, true, true, true, true, false, false, false, false, false, false, false, false, false, false] rfl rfl (any_of HT_.out (by kernel_rfl)) (fun _ _ _ h => h) (Or.inr ⟨by rfl, rfl⟩) ?_ ?_
            rotate_left
            · simp only [Act.put, List.setIfInBounds_toArray, List.set_cons_zero, List.set_cons_succ, i64_w, i32_w]
              rfl
            refine pure_ (i := 10) (N := some 60) (v := undef) (a' := ?_) #[true, true, true, true, true, true, true, true, true, true, true, false, false, false, false, false, false, false, false, false] rfl rfl (any_of HT_.out (by kernel_rfl)) (fun _ _ _ h => h) (Or.inr ⟨by rfl, rfl⟩) ?_ ?_
            rotate_left
            · simp only [Act.put, List.setIfInBounds_toArray, List.set_cons_zero, List.set_cons_succ, i64_w, i32_w]
              rfl
            refine pure_ (i := 11) (N := some 61) (v := undef) (a' := ?_) #[true, true, true, true, true, true, true, true, true, true, true, true, false, false, false, false, false, false, false, false] rfl rfl (any_of HT_.out (by kernel_rfl)) (fun _ _ _ h => h) (Or.inr ⟨by rfl, rfl⟩) ?_ ?_
            rotate_left
            · simp only [Act.put, List.setIfInBounds_toArray, List.set_cons_zero, List.set_cons_succ, i64_w, i32_w]
              rfl
            refine pure_ (i := 12) (N := some 62) (v := undef) (a' := ?_) #[true, true, true, true, true, true, true, true, true, true, true, true, true, false, false, false, false, false, false, false] rfl rfl (any_of HT_.out (by kernel_rfl)) (fun _ _ _ h => h) (Or.inr ⟨by rfl, rfl⟩) ?_ ?_
            rotate_left
            · simp only [Act.put, List.setIfInBounds_toArray, List.set_cons_zero, List.set_cons_succ, i64_w, i32_w]
              rfl
            refine pure_ (i := 13) (N := some 63) (v := undef) (a' := ?_) #[true, true, true, true, true, true, true, true, true, true, true, true, true, true, false, false, false, false, false, false] rfl rfl (any_of HT_.out (by kernel_rfl)) (fun _ _ _ h => h) (Or.inr ⟨by rfl, rfl⟩) ?_ ?_
            rotate_left
            · simp only [Act.put, List.setIfInBounds_toArray, List.set_cons_zero, List.set_cons_succ, i64_w, i32_w]
              rfl
            refine pure_ (i := 14) (N := some 64) (v := undef) (a' := ?_) #[true, true, true, true, true, true, true, true, true, true, true, true, true, true, true, false, false, false, false, false] rfl rfl (any_of HT_.out (by kernel_rfl)) (fun _ _ _ h => h) (Or.inr ⟨by rfl, rfl⟩) ?_ ?_
            rotate_left
            · simp only [Act.put, List.setIfInBounds_toArray, List.set_cons_zero, List.set_cons_succ, i64_w, i32_w]
              rfl
            refine pure_ (i := 15) (N := some 65) (v := undef) (a' := ?_) #[true, true, true, true, true, true, true, true, true, true, true, true, true, true, true, true, false, false, false, false] rfl rfl (any_of HT_.out (by kernel_rfl)) (fun _ _ _ h => h) (Or.inr ⟨by rfl, rfl⟩) ?_ ?_
            rotate_left
            · simp only [Act.put, List.setIfInBounds_toArray, List.set_cons_zero, List.set_cons_succ, i64_w, i32_w]
              rfl
            refine pure_ (i := 16) (N := some 66) (v := undef) (a' := ?_) #[true, true, true, true, true, true, true, true, true, true, true, true, true, true, true, true, true, false, false, false] rfl rfl (any_of HT_.out (by kernel_rfl)) (fun _ _ _ h => h) (Or.inr ⟨by rfl, rfl⟩) ?_ ?_
            rotate_left
            · simp only [Act.put, List.setIfInBounds_toArray, List.set_cons_zero, List.set_cons_succ, i64_w, i32_w]
              rfl
            refine pure_ (i := 17) (N := some 67) (v := ?_) (a' := ?_) #[true, true, true, true, true, true, true, true, true, true, true, true, true, true, true, true, true, true, false, false] rfl rfl (any_of HT_.out (by kernel_rfl)) (fun _ _ _ h => h) (Or.inl ⟨by rfl, ?_⟩) ?_ ?_
            rotate_left
            · intro w'
              go_simp
              with_reducible rfl
            rotate_left
            · simp only [Act.put, List.setIfInBounds_toArray, List.set_cons_zero, List.set_cons_succ, i64_w, i32_w]
              rfl
            refine pure_ (i := 18) (N := some 10) (v := ?_) (a' := ?_) #[true, true, true, true, true, true, true, true, true, true, true, true, true, true, true, true, true, true, true, false] rfl rfl (any_of HT_.out (by kernel_rfl)) (fun _ _ _ h => h) (Or.inl ⟨by rfl, ?_⟩) ?_ ?_
            rotate_left
            · intro w'
              go_simp
              with_reducible rfl
            rotate_left
            · simp only [Act.put, List.setIfInBounds_toArray, List.set_cons_zero, List.set_cons_succ, i64_w, i32_w]
              rfl
            refine pure_ (i := 19) (N := some 11) (v := ?_) (a' := ?_) #[true, true, true, true, true, true, true, true, true, true, true, true, true, true, true, true, true, true, true, true] rfl rfl (any_of HT_.out (by kernel_rfl)) (fun _ _ _ h => h) (Or.inl ⟨by rfl, ?_⟩) ?_ ?_
            rotate_left
            · intro w'
              go_simp
              with_reducible rfl
            rotate_left
            · simp only [Act.put, List.setIfInBounds_toArray, List.set_cons_zero, List.set_cons_succ, i64_w, i32_w]
              rfl
            refine done_ (done_of HT_.out (by kernel_rfl)) ?_
            go_wp2
            go_roundw
            case rel => exact ⟨v + 1, by simp, by omega, by simp [rg, hr], by simp [lg, hl], HJ, HC⟩
            case measure => simp [intOf]; omega
      · obtain rfl : v = 4 := by omega
        have h4b : decide (((4 : Nat) : Int) < 4) = false := by decide
        go_wp2_with fail
        refine (shuttlelaw11_splits.calls 10000 true _ jsplits_ok).mono ?_
        rintro e w6 ⟨rfl, hb⟩
        have n0 := Aside0.mk (HJ.out.below hb)
        have n1 := Aside0.mk (Kd.R_below HC.out hb)
        clear HJ HC hb
        have HJ := n0
        have HC := n1
        clear n0 n1
        cases hr : rg L 4 with
        | false =>
          have hq := jres_right L hr
          have hcl : cl = [] := by rw [HCL.out, hq]
          have hce : ce = 5 := by rw [HCE.out, hq]
          clear hq HCL HCE
          subst hce
          subst hcl
          go_wp2
          go_ret
          exact ⟨by simp, below_step HB01.out HJ.out.bel⟩
        | true =>
          cases hl : lg L 4 with
          | false =>
            have hq := jres_long L hr hl
            have hcl : cl = [] := by rw [HCL.out, hq]
            have hce : ce = 1 := by rw [HCE.out, hq]
            clear hq HCL HCE
            subst hce
            subst hcl
            go_wp2
            go_ret
            exact ⟨by simp, below_step HB01.out HJ.out.bel⟩
          | true =>
            have hq := jres_ok L hr hl
            have hcl : cl = jcode L := by rw [HCL.out, hq]
            have hce : ce = 0 := by rw [HCE.out, hq]
            have HLG := Aside0.mk (lg_all L hl)
            have hcn : cl.length = 4 * (L 0).length := by rw [hcl]; exact jcode_length L
            have HPK := Aside0.mk (show ∀ v : Nat, v < 4 → shuttleref10_Pick.f 1000 cl (v : Int) = some (L v) from fun v hv => by
              rw [hcl, pick_f (jcode L) v hv (L 0).length (jcode_length L) (by have := HL.out 0 (by omega); omega) 1000 (by have := HL.out 0 (by omega); omega), jcode_pk L v hv (HLG.out v hv)])
            have HCN := Aside0.mk hcn
            clear hq HCL HCE hcl hcn
            subst hce
            go_wp2_with fail
            go_loopw [13] (fun v13 wr => ∃ (v : Nat), v13 = .int .i64 (v : Int) ∧ v ≤ 4 ∧ Aside0 (JS w1 wr b7 (fun i => .slice (A i) (L i).length (k i)) L) ∧ Aside0 (Kd.R (Kd.int .u8) 5 wr nb (fun _ => True) (.slice Ac cl.length cc) cl)) (fun v13 _ => 4 - (intOf v13).toNat)
            case atStart => exact ⟨0, by simp, by omega, HJ, HC⟩
            case round =>
              clear HJ HC
              obtain ⟨v, rfl, hv, HJ, HC⟩ := hrel
              by_cases h4 : v < 4
              · have h4b : decide ((v : Int) < 4) = true := decide_eq_true (by omega)
                have h4c : (v : Int) < 4 := by omega
                have hb := below_drew1 (Below.refl wr.heap.size wr)
                go_wp2_with fail
                have n0 := Aside0.mk (HJ.out.below hb)
                have n1 := Aside0.mk (Kd.R_below HC.out hb)
                clear HJ HC hb
                have HJ := n0
                have HC := n1
                clear n0 n1
                refine start_ (n := 9) (S := (fun w' => w'.cell? ⟨b7, v, none⟩ = some (.slice (A v) (L v).length (k v)))) (ds := []) #[false, false, false, false, false, false, false, false, false] (by kernel_rfl) rfl rfl (HJ.out.cell v (by omega)) (fun hHeld => ?_)
                refine with_tabW j15.tab j15.bits (fun HT_ HW_ => ?_)
                refine pure_ (i := 0) (N := some 103) (v := ?_) (a' := ?_) #[true, false, false, false, false, false, false, false, false] rfl rfl (any_of HT_.out (by kernel_rfl)) (fun _ _ _ h => h) (Or.inl ⟨by rfl, ?_⟩) ?_ ?_
                rotate_left
                · intro w'
                  go_simp
                  with_reducible rfl
                rotate_left
                · simp only [Act.put, List.setIfInBounds_toArray, List.set_cons_zero, List.set_cons_succ, i64_w, i32_w]
                  rfl
                refine pure_ (i := 1) (N := some 104) (v := ?_) (a' := ?_) #[true, true, false, false, false, false, false, false, false] rfl rfl (any_of HT_.out (by kernel_rfl)) (fun _ _ _ h => h) (Or.inl ⟨by rfl, ?_⟩) ?_ ?_
                rotate_left
                · intro w'
                  go_simp
                  with_reducible rfl
                rotate_left
                · simp only [Act.put, List.setIfInBounds_toArray, List.set_cons_zero, List.set_cons_succ, i64_w, i32_w]
                  rfl
                refine pure_ (i := 4) (N := some 107) (v := ?_) (a' := ?_) #[true, true, false, false, true, false, false, false, false] rfl rfl (any_of HT_.out (by kernel_rfl)) (fun _ _ _ h => h) (Or.inl ⟨by rfl, ?_⟩) ?_ ?_
                rotate_left
                · intro w'
                  go_simp
                  with_reducible rfl
                rotate_left
                · simp only [Act.put, List.setIfInBounds_toArray, List.set_cons_zero, List.set_cons_succ, i64_w, i32_w]
                  rfl
                refine pure_ (i := 5) (N := some 108) (v := ?_) (a' := ?_) #[true, true, false, false, true, true, false, false, false] rfl rfl (any_of HT_.out (by kernel_rfl)) (fun _ _ _ h => h) (Or.inl ⟨by rfl, ?_⟩) ?_ ?_
                rotate_left
                · intro w'
                  go_simp
                  with_reducible rfl
                rotate_left
                · simp only [Act.put, List.setIfInBounds_toArray, List.set_cons_zero, List.set_cons_succ, i64_w, i32_w]
                  rfl
                refine take_ (i := 6) (N := some 109) (v := ?_) (a' := ?_) #[true, true, false, false, true, true, true, false, false] rfl rfl (take_ofW HT_.out HW_.out (by kernel_rfl)) (fun _ _ _ h => h) (Or.inl ⟨by rfl, ?_⟩) hHeld ?_ ?_
                rotate_left
                · rintro w' s0
                  go_simp
                  with_reducible rfl
                rotate_left
                · simp only [Act.put, List.setIfInBounds_toArray, List.set_cons_zero, List.set_cons_succ, i64_w, i32_w]
                  rfl
                refine two_ (i := 2) (j := 7) (Ni := some 105) (Nj := some 110) #[true, true, true, false, true, true, true, false, false] #[true, true, false, false, true, true, true, true, false] rfl rfl rfl rfl (two_of HT_.out (by kernel_rfl)) (by decide) (by decide) (fun K hK => ?_) (fun K hK => ?_)
                · skip
                  refine goes_ Try.func11 (by kernel_rfl) rfl _ (by rfl) rfl rfl (by (try simp only [List.map_toArray, List.map_cons, List.map_nil]); first | done | rfl | (go_simp; done) | simp [Act.eval]) ?_
                  refine (shuttleref10_Pick.calls 1000 Ac cc cl (v : Int) (L v) _ (Kd.R_reads' HC.out).2.2 (Kd.R_reads' HC.out).2.1 (HPK.out v (by omega))).mono ?_
                  rintro e w8 ⟨vp, rfl, hp, hb⟩
                  have HPR := Aside0.mk hp
                  have n0 := Aside0.mk (HJ.out.below hb)
                  have n1 := Aside0.mk (Kd.R_below HC.out hb)
                  clear HJ HC hb hp
                  have HJ := n0
                  have HC := n1
                  clear n0 n1
                  refine ⟨_, rfl, ?_⟩
                  refine hK.out _ _ (HJ.out.cell v (by omega)) (fun hHeld => ?_)
                  clear hK K
                  refine norm_ (a' := ?_) ?_ ?_
                  rotate_left
                  · show Act.put _ (some 105) _ = _
                    simp only [Act.put, List.setIfInBounds_toArray, List.set_cons_zero, List.set_cons_succ, i64_w, i32_w]
                    rfl
                  refine two_ (i := 3) (j := 7) (Ni := some 106) (Nj := some 110) #[true, true, true, true, true, true, true, false, false] #[true, true, true, false, true, true, true, true, false] rfl rfl rfl rfl (two_of HT_.out (by kernel_rfl)) (by decide) (by decide) (fun K hK => ?_) (fun K hK => ?_)
                  · skip
                    have hcva := own_string (P := Try.prog) Try.underlying22 Try.underlying5 Try.underlying9 (Kd.own_of_R HPR.out)
                    refine value_ (w1 := ?_) (v := ?_) (by rfl) rfl ?_ ?_
                    rotate_left 2
                    · go_simp
                      constructor
                      · rfl
                      · rfl
                    refine hK.out _ _ (HJ.out.cell v (by omega)) (fun hHeld => ?_)
                    clear hK K
                    refine norm_ (a' := ?_) ?_ ?_
                    rotate_left
                    · show Act.put _ (some 106) _ = _
                      simp only [Act.put, List.setIfInBounds_toArray, List.set_cons_zero, List.set_cons_succ, i64_w, i32_w]
                      rfl
                    refine one_ (i := 7) (N := some 110) #[true, true, true, true, true, true, true, true, false] rfl rfl (one_of HT_.out (by kernel_rfl)) (by decide) (fun K hK => ?_)
                    have hcvb := Kd.C_string (P := Try.prog) (A := A v) (c := k v) Try.underlying22 Try.underlying5 Try.underlying9 (HJ.out.at v (by omega)).2
                    refine value_ (w1 := ?_) (v := ?_) (by rfl) rfl ?_ ?_
                    rotate_left 2
                    · go_simp
                      constructor
                      · rfl
                      · rfl
                    refine hK.out _ _ (HJ.out.cell v (by omega)) (fun hHeld => ?_)
                    clear hK K
                    refine norm_ (a' := ?_) ?_ ?_
                    rotate_left
                    · show Act.put _ (some 110) _ = _
                      simp only [Act.put, List.setIfInBounds_toArray, List.set_cons_zero, List.set_cons_succ, i64_w, i32_w]
                      rfl
                    refine pure_ (i := 8) (N := some 111) (v := ?_) (a' := ?_) #[true, true, true, true, true, true, true, true, true] rfl rfl (any_of HT_.out (by kernel_rfl)) (fun _ _ _ h => h) (Or.inl ⟨by rfl, ?_⟩) ?_ ?_
                    rotate_left
                    · intro w'
                      go_simp
                      with_reducible rfl
                    rotate_left
                    · simp only [Act.put, List.setIfInBounds_toArray, List.set_cons_zero, List.set_cons_succ, i64_w, i32_w]
                      rfl
                    refine done_ (done_of HT_.out (by kernel_rfl)) ?_
                    go_wp2
                    go_roundw
                    case rel => exact ⟨v + 1, by simp, by omega, HJ, HC⟩
                    case measure => simp [intOf]; omega
                  · skip
                    have hcvb := Kd.C_string (P := Try.prog) (A := A v) (c := k v) Try.underlying22 Try.underlying5 Try.underlying9 (HJ.out.at v (by omega)).2
                    refine value_ (w1 := ?_) (v := ?_) (by rfl) rfl ?_ ?_
                    rotate_left 2
                    · go_simp
                      constructor
                      · rfl
                      · rfl
                    refine hK.out _ _ (HJ.out.cell v (by omega)) (fun hHeld => ?_)
                    clear hK K
                    refine norm_ (a' := ?_) ?_ ?_
                    rotate_left
                    · show Act.put _ (some 110) _ = _
                      simp only [Act.put, List.setIfInBounds_toArray, List.set_cons_zero, List.set_cons_succ, i64_w, i32_w]
                      rfl
                    refine one_ (i := 3) (N := some 106) #[true, true, true, true, true, true, true, true, false] rfl rfl (one_of HT_.out (by kernel_rfl)) (by decide) (fun K hK => ?_)
                    have hcva := own_string (P := Try.prog) Try.underlying22 Try.underlying5 Try.underlying9 (Kd.own_of_R HPR.out)
                    refine value_ (w1 := ?_) (v := ?_) (by rfl) rfl ?_ ?_
                    rotate_left 2
                    · go_simp
                      constructor
                      · rfl
                      · rfl
                    refine hK.out _ _ (HJ.out.cell v (by omega)) (fun hHeld => ?_)
                    clear hK K
                    refine norm_ (a' := ?_) ?_ ?_
                    rotate_left
                    · show Act.put _ (some 106) _ = _
                      simp only [Act.put, List.setIfInBounds_toArray, List.set_cons_zero, List.set_cons_succ, i64_w, i32_w]
                      rfl
                    refine pure_ (i := 8) (N := some 111) (v := ?_) (a' := ?_) #[true, true, true, true, true, true, true, true, true] rfl rfl (any_of HT_.out (by kernel_rfl)) (fun _ _ _ h => h) (Or.inl ⟨by rfl, ?_⟩) ?_ ?_
                    rotate_left
                    · intro w'
                      go_simp
                      with_reducible rfl
                    rotate_left
                    · simp only [Act.put, List.setIfInBounds_toArray, List.set_cons_zero, List.set_cons_succ, i64_w, i32_w]
                      rfl
                    refine done_ (done_of HT_.out (by kernel_rfl)) ?_
                    go_wp2
                    go_roundw
                    case rel => exact ⟨v + 1, by simp, by omega, HJ, HC⟩
                    case measure => simp [intOf]; omega
                · skip
                  have hcvb := Kd.C_string (P := Try.prog) (A := A v) (c := k v) Try.underlying22 Try.underlying5 Try.underlying9 (HJ.out.at v (by omega)).2
                  refine value_ (w1 := ?_) (v := ?_) (by rfl) rfl ?_ ?_
                  rotate_left 2
                  · go_simp
                    constructor
                    · rfl
                    · rfl
                  refine hK.out _ _ (HJ.out.cell v (by omega)) (fun hHeld => ?_)
                  clear hK K
                  refine norm_ (a' := ?_) ?_ ?_
                  rotate_left
                  · show Act.put _ (some 110) _ = _
                    simp only [Act.put, List.setIfInBounds_toArray, List.set_cons_zero, List.set_cons_succ, i64_w, i32_w]
                    rfl
                  refine one_ (i := 2) (N := some 105) #[true, true, true, false, true, true, true, true, false] rfl rfl (one_of HT_.out (by kernel_rfl)) (by decide) (fun K hK => ?_)
                  refine goes_ Try.func11 (by kernel_rfl) rfl _ (by rfl) rfl rfl (by (try simp only [List.map_toArray, List.map_cons, List.map_nil]); first | done | rfl | (go_simp; done) | simp [Act.eval]) ?_
                  refine (shuttleref10_Pick.calls 1000 Ac cc cl (v : Int) (L v) _ (Kd.R_reads' HC.out).2.2 (Kd.R_reads' HC.out).2.1 (HPK.out v (by omega))).mono ?_
                  rintro e w8 ⟨vp, rfl, hp, hb⟩
                  have HPR := Aside0.mk hp
                  have n0 := Aside0.mk (HJ.out.below hb)
                  have n1 := Aside0.mk (Kd.R_below HC.out hb)
                  clear HJ HC hb hp
                  have HJ := n0
                  have HC := n1
                  clear n0 n1
                  refine ⟨_, rfl, ?_⟩
                  refine hK.out _ _ (HJ.out.cell v (by omega)) (fun hHeld => ?_)
                  clear hK K
                  refine norm_ (a' := ?_) ?_ ?_
                  rotate_left
                  · show Act.put _ (some 105) _ = _
                    simp only [Act.put, List.setIfInBounds_toArray, List.set_cons_zero, List.set_cons_succ, i64_w, i32_w]
                    rfl
                  refine one_ (i := 3) (N := some 106) #[true, true, true, true, true, true, true, true, false] rfl rfl (one_of HT_.out (by kernel_rfl)) (by decide) (fun K hK => ?_)
                  have hcva := own_string (P := Try.prog) Try.underlying22 Try.underlying5 Try.underlying9 (Kd.own_of_R HPR.out)
                  refine value_ (w1 := ?_) (v := ?_) (by rfl) rfl ?_ ?_
                  rotate_left 2
                  · go_simp
                    constructor
                    · rfl
                    · rfl
                  refine hK.out _ _ (HJ.out.cell v (by omega)) (fun hHeld => ?_)
                  clear hK K
                  refine norm_ (a' := ?_) ?_ ?_
                  rotate_left
                  · show Act.put _ (some 106) _ = _
                    simp only [Act.put, List.setIfInBounds_toArray, List.set_cons_zero, List.set_cons_succ, i64_w, i32_w]
                    rfl
                  refine pure_ (i := 8) (N := some 111) (v := ?_) (a' := ?_) #[true, true, true, true, true, true, true, true, true] rfl rfl (any_of HT_.out (by kernel_rfl)) (fun _ _ _ h => h) (Or.inl ⟨by rfl, ?_⟩) ?_ ?_
                  rotate_left
                  · intro w'
                    go_simp
                    with_reducible rfl
                  rotate_left
                  · simp only [Act.put, List.setIfInBounds_toArray, List.set_cons_zero, List.set_cons_succ, i64_w, i32_w]
                    rfl
                  refine done_ (done_of HT_.out (by kernel_rfl)) ?_
                  go_wp2
                  go_roundw
                  case rel => exact ⟨v + 1, by simp, by omega, HJ, HC⟩
                  case measure => simp [intOf]; omega
              · obtain rfl : v = 4 := by omega
                have h4b : decide (((4 : Nat) : Int) < 4) = false := by decide
                have hcell0 := HJ.out.cell 0 (by omega)
                have hl60 := HL.out 0 (by omega)
                have hwr : wrap64 (4 * (((L 0).length : Nat) : Int)) = ((4 * (L 0).length : Nat) : Int) := by rw [wrap_in (by omega) (by omega)]; omega
                have hcn := HCN.out
                go_wp2
                go_ret
                exact ⟨by simp, below_step HB01.out HJ.out.bel⟩
  intro hJ0_6_7_13_19_25_26_27
  refine join_ (σ := Value × Value × Value × Value × Value × Value × Value) 2 joins1.m23 (fun s_ => [(14, s_.1), (20, s_.2.1), (21, s_.2.2.1), (27, s_.2.2.2.1), (33, s_.2.2.2.2.1), (39, s_.2.2.2.2.2.1), (40, s_.2.2.2.2.2.2)]) (fun s_ w' => JQ w1 w' (q4 s_.2.1 s_.2.2.2.1 s_.2.2.2.2.1 s_.2.2.2.2.2.1) (q4 a b (List.replicate m0 0) (List.replicate m1 0)) (.bool false) ∧ (s_.2.2.2.2.2.2 = Value.agg #[s_.2.1, s_.2.2.2.1, s_.2.2.2.2.1, s_.2.2.2.2.2.1]) ∧ (True)) ?_ ?_
  · rintro ⟨s0, s6, s7, s13, s19, s25, s26⟩ w' hF_
    have HQ := Aside0.mk (show JQ w1 w' (q4 s6 s13 s19 s25) (q4 a b (List.replicate m0 0) (List.replicate m1 0)) (.bool false) ∧ (s26 = Value.agg #[s6, s13, s19, s25]) ∧ (True) from hF_)
    clear hF_ hHeld
    refine norm_ (a' := ?_) ?_ ?_
    rotate_left
    · simp only [putAll, Act.put, List.setIfInBounds_toArray, List.set_cons_zero, List.set_cons_succ]
      rfl
    refine one_ (i := 27) (N := some 7) joins1.m21 rfl rfl (one_of HT_.out (by kernel_rfl)) (by decide) (fun K hK => ?_)
    · skip
      refine alloc_ HQ.out.1 (by rfl) rfl (by rfl) ?_
      intro s27 wn ho hp
      have n0_ := Aside0.mk (And.intro ho (And.intro HQ.out.2.1 hp))
      clear HQ ho hp
      have HQ := n0_
      clear n0_
      refine hK.out _ _ (HS.out _ HQ.out.1.bel) (fun hHeld => ?_)
      clear hK K
      refine norm_ (a' := ?_) ?_ ?_
      rotate_left
      · show Act.put _ (some 7) _ = _
        simp only [Act.put, List.setIfInBounds_toArray, List.set_cons_zero, List.set_cons_succ, i64_w, i32_w]
        rfl
      exact norm_ (by first | (simp only [putAll, Act.put, List.setIfInBounds_toArray, List.set_cons_zero, List.set_cons_succ]; done) | (simp only [putAll, Act.put, List.setIfInBounds_toArray, List.set_cons_zero, List.set_cons_succ]; rfl)) (hJ0_6_7_13_19_25_26_27 ⟨s0, s6, s7, s13, s19, s25, s26, s27⟩ _ HQ.out)
  intro hJ0_6_7_13_19_25_26
  refine join_ (σ := Value × Value × Value × Value × Value × Value × Value) 2 joins1.m24 (fun s_ => [(14, s_.1), (20, s_.2.1), (21, s_.2.2.1), (27, s_.2.2.2.1), (33, s_.2.2.2.2.1), (39, s_.2.2.2.2.2.1), (7, s_.2.2.2.2.2.2)]) (fun s_ w' => JQ w1 w' (q4 s_.2.1 s_.2.2.2.1 s_.2.2.2.2.1 s_.2.2.2.2.2.1) (q4 a b (List.replicate m0 0) (List.replicate m1 0)) s_.2.2.2.2.2.2 ∧ (True) ∧ (∃ b7, s_.2.2.2.2.2.2 = Value.pointer (some ⟨b7, 0, none⟩))) ?_ ?_
  · rintro ⟨s0, s6, s7, s13, s19, s25, s27⟩ w' hF_
    have HQ := Aside0.mk (show JQ w1 w' (q4 s6 s13 s19 s25) (q4 a b (List.replicate m0 0) (List.replicate m1 0)) s27 ∧ (True) ∧ (∃ b7, s27 = Value.pointer (some ⟨b7, 0, none⟩)) from hF_)
    clear hF_ hHeld
    refine norm_ (a' := ?_) ?_ ?_
    rotate_left
    · simp only [putAll, Act.put, List.setIfInBounds_toArray, List.set_cons_zero, List.set_cons_succ]
      rfl
    refine one_ (i := 26) (N := some 40) joins1.m21 rfl rfl (one_of HT_.out (by kernel_rfl)) (by decide) (fun K hK => ?_)
    · skip
      obtain ⟨A6, c6, e6⟩ := Kd.R_slice (HQ.out.1.row 0 (by omega))
      obtain ⟨A13, c13, e13⟩ := Kd.R_slice (HQ.out.1.row 1 (by omega))
      obtain ⟨A19, c19, e19⟩ := Kd.R_slice (HQ.out.1.row 2 (by omega))
      obtain ⟨A25, c25, e25⟩ := Kd.R_slice (HQ.out.1.row 3 (by omega))
      have f6 : s6 = .slice A6 a.length c6 := e6
      have f13 : s13 = .slice A13 b.length c13 := e13
      have f19 : s19 = .slice A19 (List.replicate m0 (0 : Int)).length c19 := e19
      have f25 : s25 = .slice A25 (List.replicate m1 (0 : Int)).length c25 := e25
      refine value_ (w1 := w') (v := .agg #[s6, s13, s19, s25]) (by rfl) rfl (by clear HQ e6 e13 e19 e25 hK; subst f6 f13 f19 f25; first | (go_simp; done) | (go_simp; rfl)) ?_
      clear e6 e13 e19 e25 f6 f13 f19 f25
      obtain ⟨s26, h26⟩ : ∃ s26, s26 = Value.agg #[s6, s13, s19, s25] := ⟨_, rfl⟩
      rw [← h26]
      have n0_ := Aside0.mk (And.intro HQ.out.1 (And.intro h26 HQ.out.2.2))
      clear HQ h26
      have HQ := n0_
      clear n0_
      refine hK.out _ _ (HS.out _ HQ.out.1.bel) (fun hHeld => ?_)
      clear hK K
      refine norm_ (a' := ?_) ?_ ?_
      rotate_left
      · show Act.put _ (some 40) _ = _
        simp only [Act.put, List.setIfInBounds_toArray, List.set_cons_zero, List.set_cons_succ, i64_w, i32_w]
        rfl
      exact norm_ (by first | (simp only [putAll, Act.put, List.setIfInBounds_toArray, List.set_cons_zero, List.set_cons_succ]; done) | (simp only [putAll, Act.put, List.setIfInBounds_toArray, List.set_cons_zero, List.set_cons_succ]; rfl)) (hJ0_6_7_13_19_25_26_27 ⟨s0, s6, s7, s13, s19, s25, s26, s27⟩ _ HQ.out)
  intro hJ0_6_7_13_19_25_27
  refine join_ (σ := Value × Value × Value × Value × Value × Value) 3 joins1.m25 (fun s_ => [(14, s_.1), (20, s_.2.1), (21, s_.2.2.1), (27, s_.2.2.2.1), (33, s_.2.2.2.2.1), (39, s_.2.2.2.2.2)]) (fun s_ w' => JQ w1 w' (q4 s_.2.1 s_.2.2.2.1 s_.2.2.2.2.1 s_.2.2.2.2.2) (q4 a b (List.replicate m0 0) (List.replicate m1 0)) (.bool false) ∧ (True) ∧ (True)) ?_ ?_
  · rintro ⟨s0, s6, s7, s13, s19, s25⟩ w' hF_
    have HQ := Aside0.mk (show JQ w1 w' (q4 s6 s13 s19 s25) (q4 a b (List.replicate m0 0) (List.replicate m1 0)) (.bool false) ∧ (True) ∧ (True) from hF_)
    clear hF_ hHeld
    refine norm_ (a' := ?_) ?_ ?_
    rotate_left
    · simp only [putAll, Act.put, List.setIfInBounds_toArray, List.set_cons_zero, List.set_cons_succ]
      rfl
    refine two_ (i := 26) (j := 27) (Ni := some 40) (Nj := some 7) joins1.m23 joins1.m24 rfl rfl rfl rfl (two_of HT_.out (by kernel_rfl)) (by decide) (by decide) (fun K hK => ?_) (fun K hK => ?_)
    · skip
      obtain ⟨A6, c6, e6⟩ := Kd.R_slice (HQ.out.1.row 0 (by omega))
      obtain ⟨A13, c13, e13⟩ := Kd.R_slice (HQ.out.1.row 1 (by omega))
      obtain ⟨A19, c19, e19⟩ := Kd.R_slice (HQ.out.1.row 2 (by omega))
      obtain ⟨A25, c25, e25⟩ := Kd.R_slice (HQ.out.1.row 3 (by omega))
      have f6 : s6 = .slice A6 a.length c6 := e6
      have f13 : s13 = .slice A13 b.length c13 := e13
      have f19 : s19 = .slice A19 (List.replicate m0 (0 : Int)).length c19 := e19
      have f25 : s25 = .slice A25 (List.replicate m1 (0 : Int)).length c25 := e25
      refine value_ (w1 := w') (v := .agg #[s6, s13, s19, s25]) (by rfl) rfl (by clear HQ e6 e13 e19 e25 hK; subst f6 f13 f19 f25; first | (go_simp; done) | (go_simp; rfl)) ?_
      clear e6 e13 e19 e25 f6 f13 f19 f25
      obtain ⟨s26, h26⟩ : ∃ s26, s26 = Value.agg #[s6, s13, s19, s25] := ⟨_, rfl⟩
      rw [← h26]
      have n0_ := Aside0.mk (And.intro HQ.out.1 (And.intro h26 HQ.out.2.2))
      clear HQ h26
      have HQ := n0_
      clear n0_
      refine hK.out _ _ (HS.out _ HQ.out.1.bel) (fun hHeld => ?_)
      clear hK K
      refine norm_ (a' := ?_) ?_ ?_
      rotate_left
      · show Act.put _ (some 40) _ = _
        simp only [Act.put, List.setIfInBounds_toArray, List.set_cons_zero, List.set_cons_succ, i64_w, i32_w]
        rfl
      exact norm_ (by first | (simp only [putAll, Act.put, List.setIfInBounds_toArray, List.set_cons_zero, List.set_cons_succ]; done) | (simp only [putAll, Act.put, List.setIfInBounds_toArray, List.set_cons_zero, List.set_cons_succ]; rfl)) (hJ0_6_7_13_19_25_26 ⟨s0, s6, s7, s13, s19, s25, s26⟩ _ HQ.out)
    · skip
      refine alloc_ HQ.out.1 (by rfl) rfl (by rfl) ?_
      intro s27 wn ho hp
      have n0_ := Aside0.mk (And.intro ho (And.intro HQ.out.2.1 hp))
      clear HQ ho hp
      have HQ := n0_
      clear n0_
      refine hK.out _ _ (HS.out _ HQ.out.1.bel) (fun hHeld => ?_)
      clear hK K
      refine norm_ (a' := ?_) ?_ ?_
      rotate_left
      · show Act.put _ (some 7) _ = _
        simp only [Act.put, List.setIfInBounds_toArray, List.set_cons_zero, List.set_cons_succ, i64_w, i32_w]
        rfl
      exact norm_ (by first | (simp only [putAll, Act.put, List.setIfInBounds_toArray, List.set_cons_zero, List.set_cons_succ]; done) | (simp only [putAll, Act.put, List.setIfInBounds_toArray, List.set_cons_zero, List.set_cons_succ]; rfl)) (hJ0_6_7_13_19_25_27 ⟨s0, s6, s7, s13, s19, s25, s27⟩ _ HQ.out)
  intro hJ0_6_7_13_19_25
  refine join_ (σ := Value × Value × Value × Value × Value × Value) 3 joins1.m26 (fun s_ => [(14, s_.1), (20, s_.2.1), (21, s_.2.2.1), (27, s_.2.2.2.1), (33, s_.2.2.2.2.1), (7, s_.2.2.2.2.2)]) (fun s_ w' => JQ w1 w' (q4 s_.2.1 s_.2.2.2.1 s_.2.2.2.2.1 (.slice none 0 0)) (q4 a b (List.replicate m0 0) []) s_.2.2.2.2.2 ∧ (True) ∧ (∃ b7, s_.2.2.2.2.2 = Value.pointer (some ⟨b7, 0, none⟩))) ?_ ?_
  · rintro ⟨s0, s6, s7, s13, s19, s27⟩ w' hF_
    have HQ := Aside0.mk (show JQ w1 w' (q4 s6 s13 s19 (.slice none 0 0)) (q4 a b (List.replicate m0 0) []) s27 ∧ (True) ∧ (∃ b7, s27 = Value.pointer (some ⟨b7, 0, none⟩)) from hF_)
    clear hF_ hHeld
    refine norm_ (a' := ?_) ?_ ?_
    rotate_left
    · simp only [putAll, Act.put, List.setIfInBounds_toArray, List.set_cons_zero, List.set_cons_succ]
      rfl
    refine one_ (i := 25) (N := some 39) joins1.m24 rfl rfl (one_of HT_.out (by kernel_rfl)) (by decide) (fun K hK => ?_)
    · skip
      refine mk_ (m := m1) 3 (by decide) HQ.out.1 hm1k (by rfl) rfl rfl (by first | rfl | (go_simp; done)) ?_
      intro s25 wn ho
      have n0_ := Aside0.mk (And.intro (ho.congr (upd3 _ _ _ _ _) (upd3 _ _ _ _ _)) HQ.out.2)
      clear HQ ho
      have HQ := n0_
      clear n0_
      refine hK.out _ _ (HS.out _ HQ.out.1.bel) (fun hHeld => ?_)
      clear hK K
      refine norm_ (a' := ?_) ?_ ?_
      rotate_left
      · show Act.put _ (some 39) _ = _
        simp only [Act.put, List.setIfInBounds_toArray, List.set_cons_zero, List.set_cons_succ, i64_w, i32_w]
        rfl
      exact norm_ (by first | (simp only [putAll, Act.put, List.setIfInBounds_toArray, List.set_cons_zero, List.set_cons_succ]; done) | (simp only [putAll, Act.put, List.setIfInBounds_toArray, List.set_cons_zero, List.set_cons_succ]; rfl)) (hJ0_6_7_13_19_25_27 ⟨s0, s6, s7, s13, s19, s25, s27⟩ _ HQ.out)
  intro hJ0_6_7_13_19_27
  refine join_ (σ := Value × Value × Value × Value × Value) 4 joins1.m27 (fun s_ => [(14, s_.1), (20, s_.2.1), (21, s_.2.2.1), (27, s_.2.2.2.1), (33, s_.2.2.2.2)]) (fun s_ w' => JQ w1 w' (q4 s_.2.1 s_.2.2.2.1 s_.2.2.2.2 (.slice none 0 0)) (q4 a b (List.replicate m0 0) []) (.bool false) ∧ (True) ∧ (True)) ?_ ?_
  · rintro ⟨s0, s6, s7, s13, s19⟩ w' hF_
    have HQ := Aside0.mk (show JQ w1 w' (q4 s6 s13 s19 (.slice none 0 0)) (q4 a b (List.replicate m0 0) []) (.bool false) ∧ (True) ∧ (True) from hF_)
    clear hF_ hHeld
    refine norm_ (a' := ?_) ?_ ?_
    rotate_left
    · simp only [putAll, Act.put, List.setIfInBounds_toArray, List.set_cons_zero, List.set_cons_succ]
      rfl
    refine two_ (i := 25) (j := 27) (Ni := some 39) (Nj := some 7) joins1.m25 joins1.m26 rfl rfl rfl rfl (two_of HT_.out (by kernel_rfl)) (by decide) (by decide) (fun K hK => ?_) (fun K hK => ?_)
    · skip
      refine mk_ (m := m1) 3 (by decide) HQ.out.1 hm1k (by rfl) rfl rfl (by first | rfl | (go_simp; done)) ?_
      intro s25 wn ho
      have n0_ := Aside0.mk (And.intro (ho.congr (upd3 _ _ _ _ _) (upd3 _ _ _ _ _)) HQ.out.2)
      clear HQ ho
      have HQ := n0_
      clear n0_
      refine hK.out _ _ (HS.out _ HQ.out.1.bel) (fun hHeld => ?_)
      clear hK K
      refine norm_ (a' := ?_) ?_ ?_
      rotate_left
      · show Act.put _ (some 39) _ = _
        simp only [Act.put, List.setIfInBounds_toArray, List.set_cons_zero, List.set_cons_succ, i64_w, i32_w]
        rfl
      exact norm_ (by first | (simp only [putAll, Act.put, List.setIfInBounds_toArray, List.set_cons_zero, List.set_cons_succ]; done) | (simp only [putAll, Act.put, List.setIfInBounds_toArray, List.set_cons_zero, List.set_cons_succ]; rfl)) (hJ0_6_7_13_19_25 ⟨s0, s6, s7, s13, s19, s25⟩ _ HQ.out)
    · skip
      refine alloc_ HQ.out.1 (by rfl) rfl (by rfl) ?_
      intro s27 wn ho hp
      have n0_ := Aside0.mk (And.intro ho (And.intro HQ.out.2.1 hp))
      clear HQ ho hp
      have HQ := n0_
      clear n0_
      refine hK.out _ _ (HS.out _ HQ.out.1.bel) (fun hHeld => ?_)
      clear hK K
      refine norm_ (a' := ?_) ?_ ?_
      rotate_left
      · show Act.put _ (some 7) _ = _
        simp only [Act.put, List.setIfInBounds_toArray, List.set_cons_zero, List.set_cons_succ, i64_w, i32_w]
        rfl
      exact norm_ (by first | (simp only [putAll, Act.put, List.setIfInBounds_toArray, List.set_cons_zero, List.set_cons_succ]; done) | (simp only [putAll, Act.put, List.setIfInBounds_toArray, List.set_cons_zero, List.set_cons_succ]; rfl)) (hJ0_6_7_13_19_27 ⟨s0, s6, s7, s13, s19, s27⟩ _ HQ.out)
  intro hJ0_6_7_13_19
  refine join_ (σ := Value × Value × Value × Value × Value × Value) 3 joins1.m28 (fun s_ => [(14, s_.1), (20, s_.2.1), (21, s_.2.2.1), (27, s_.2.2.2.1), (39, s_.2.2.2.2.1), (7, s_.2.2.2.2.2)]) (fun s_ w' => JQ w1 w' (q4 s_.2.1 s_.2.2.2.1 (.slice none 0 0) s_.2.2.2.2.1) (q4 a b [] (List.replicate m1 0)) s_.2.2.2.2.2 ∧ (True) ∧ (∃ b7, s_.2.2.2.2.2 = Value.pointer (some ⟨b7, 0, none⟩))) ?_ ?_
  · rintro ⟨s0, s6, s7, s13, s25, s27⟩ w' hF_
    have HQ := Aside0.mk (show JQ w1 w' (q4 s6 s13 (.slice none 0 0) s25) (q4 a b [] (List.replicate m1 0)) s27 ∧ (True) ∧ (∃ b7, s27 = Value.pointer (some ⟨b7, 0, none⟩)) from hF_)
    clear hF_ hHeld
    refine norm_ (a' := ?_) ?_ ?_
    rotate_left
    · simp only [putAll, Act.put, List.setIfInBounds_toArray, List.set_cons_zero, List.set_cons_succ]
      rfl
    refine one_ (i := 19) (N := some 33) joins1.m24 rfl rfl (one_of HT_.out (by kernel_rfl)) (by decide) (fun K hK => ?_)
    · skip
      refine mk_ (m := m0) 2 (by decide) HQ.out.1 hm0k (by rfl) rfl rfl (by first | rfl | (go_simp; done)) ?_
      intro s19 wn ho
      have n0_ := Aside0.mk (And.intro (ho.congr (upd2 _ _ _ _ _) (upd2 _ _ _ _ _)) HQ.out.2)
      clear HQ ho
      have HQ := n0_
      clear n0_
      refine hK.out _ _ (HS.out _ HQ.out.1.bel) (fun hHeld => ?_)
      clear hK K
      refine norm_ (a' := ?_) ?_ ?_
      rotate_left
      · show Act.put _ (some 33) _ = _
        simp only [Act.put, List.setIfInBounds_toArray, List.set_cons_zero, List.set_cons_succ, i64_w, i32_w]
        rfl
      exact norm_ (by first | (simp only [putAll, Act.put, List.setIfInBounds_toArray, List.set_cons_zero, List.set_cons_succ]; done) | (simp only [putAll, Act.put, List.setIfInBounds_toArray, List.set_cons_zero, List.set_cons_succ]; rfl)) (hJ0_6_7_13_19_25_27 ⟨s0, s6, s7, s13, s19, s25, s27⟩ _ HQ.out)
  intro hJ0_6_7_13_25_27
  refine join_ (σ := Value × Value × Value × Value × Value) 4 joins1.m29 (fun s_ => [(14, s_.1), (20, s_.2.1), (21, s_.2.2.1), (27, s_.2.2.2.1), (39, s_.2.2.2.2)]) (fun s_ w' => JQ w1 w' (q4 s_.2.1 s_.2.2.2.1 (.slice none 0 0) s_.2.2.2.2) (q4 a b [] (List.replicate m1 0)) (.bool false) ∧ (True) ∧ (True)) ?_ ?_
  · rintro ⟨s0, s6, s7, s13, s25⟩ w' hF_
    have HQ := Aside0.mk (show JQ w1 w' (q4 s6 s13 (.slice none 0 0) s25) (q4 a b [] (List.replicate m1 0)) (.bool false) ∧ (True) ∧ (True) from hF_)
    clear hF_ hHeld
    refine norm_ (a' := ?_) ?_ ?_
    rotate_left
    · simp only [putAll, Act.put, List.setIfInBounds_toArray, List.set_cons_zero, List.set_cons_succ]
      rfl
    refine two_ (i := 19) (j := 27) (Ni := some 33) (Nj := some 7) joins1.m25 joins1.m28 rfl rfl rfl rfl (two_of HT_.out (by kernel_rfl)) (by decide) (by decide) (fun K hK => ?_) (fun K hK => ?_)
    · skip
      refine mk_ (m := m0) 2 (by decide) HQ.out.1 hm0k (by rfl) rfl rfl (by first | rfl | (go_simp; done)) ?_
      intro s19 wn ho
      have n0_ := Aside0.mk (And.intro (ho.congr (upd2 _ _ _ _ _) (upd2 _ _ _ _ _)) HQ.out.2)
      clear HQ ho
      have HQ := n0_
      clear n0_
      refine hK.out _ _ (HS.out _ HQ.out.1.bel) (fun hHeld => ?_)
      clear hK K
      refine norm_ (a' := ?_) ?_ ?_
      rotate_left
      · show Act.put _ (some 33) _ = _
        simp only [Act.put, List.setIfInBounds_toArray, List.set_cons_zero, List.set_cons_succ, i64_w, i32_w]
        rfl
      exact norm_ (by first | (simp only [putAll, Act.put, List.setIfInBounds_toArray, List.set_cons_zero, List.set_cons_succ]; done) | (simp only [putAll, Act.put, List.setIfInBounds_toArray, List.set_cons_zero, List.set_cons_succ]; rfl)) (hJ0_6_7_13_19_25 ⟨s0, s6, s7, s13, s19, s25⟩ _ HQ.out)
    · skip
      refine alloc_ HQ.out.1 (by rfl) rfl (by rfl) ?_
      intro s27 wn ho hp
      have n0_ := Aside0.mk (And.intro ho (And.intro HQ.out.2.1 hp))
      clear HQ ho hp
      have HQ := n0_
      clear n0_
      refine hK.out _ _ (HS.out _ HQ.out.1.bel) (fun hHeld => ?_)
      clear hK K
      refine norm_ (a' := ?_) ?_ ?_
      rotate_left
      · show Act.put _ (some 7) _ = _
        simp only [Act.put, List.setIfInBounds_toArray, List.set_cons_zero, List.set_cons_succ, i64_w, i32_w]
        rfl
      exact norm_ (by first | (simp only [putAll, Act.put, List.setIfInBounds_toArray, List.set_cons_zero, List.set_cons_succ]; done) | (simp only [putAll, Act.put, List.setIfInBounds_toArray, List.set_cons_zero, List.set_cons_succ]; rfl)) (hJ0_6_7_13_25_27 ⟨s0, s6, s7, s13, s25, s27⟩ _ HQ.out)
  intro hJ0_6_7_13_25
  refine join_ (σ := Value × Value × Value × Value × Value) 4 joins1.m30 (fun s_ => [(14, s_.1), (20, s_.2.1), (21, s_.2.2.1), (27, s_.2.2.2.1), (7, s_.2.2.2.2)]) (fun s_ w' => JQ w1 w' (q4 s_.2.1 s_.2.2.2.1 (.slice none 0 0) (.slice none 0 0)) (q4 a b [] []) s_.2.2.2.2 ∧ (True) ∧ (∃ b7, s_.2.2.2.2 = Value.pointer (some ⟨b7, 0, none⟩))) ?_ ?_
  · rintro ⟨s0, s6, s7, s13, s27⟩ w' hF_
    have HQ := Aside0.mk (show JQ w1 w' (q4 s6 s13 (.slice none 0 0) (.slice none 0 0)) (q4 a b [] []) s27 ∧ (True) ∧ (∃ b7, s27 = Value.pointer (some ⟨b7, 0, none⟩)) from hF_)
    clear hF_ hHeld
    refine norm_ (a' := ?_) ?_ ?_
    rotate_left
    · simp only [putAll, Act.put, List.setIfInBounds_toArray, List.set_cons_zero, List.set_cons_succ]
      rfl
    refine two_ (i := 19) (j := 25) (Ni := some 33) (Nj := some 39) joins1.m26 joins1.m28 rfl rfl rfl rfl (two_of HT_.out (by kernel_rfl)) (by decide) (by decide) (fun K hK => ?_) (fun K hK => ?_)
    · skip
      refine mk_ (m := m0) 2 (by decide) HQ.out.1 hm0k (by rfl) rfl rfl (by first | rfl | (go_simp; done)) ?_
      intro s19 wn ho
      have n0_ := Aside0.mk (And.intro (ho.congr (upd2 _ _ _ _ _) (upd2 _ _ _ _ _)) HQ.out.2)
      clear HQ ho
      have HQ := n0_
      clear n0_
      refine hK.out _ _ (HS.out _ HQ.out.1.bel) (fun hHeld => ?_)
      clear hK K
      refine norm_ (a' := ?_) ?_ ?_
      rotate_left
      · show Act.put _ (some 33) _ = _
        simp only [Act.put, List.setIfInBounds_toArray, List.set_cons_zero, List.set_cons_succ, i64_w, i32_w]
        rfl
      exact norm_ (by first | (simp only [putAll, Act.put, List.setIfInBounds_toArray, List.set_cons_zero, List.set_cons_succ]; done) | (simp only [putAll, Act.put, List.setIfInBounds_toArray, List.set_cons_zero, List.set_cons_succ]; rfl)) (hJ0_6_7_13_19_27 ⟨s0, s6, s7, s13, s19, s27⟩ _ HQ.out)
    · skip
      refine mk_ (m := m1) 3 (by decide) HQ.out.1 hm1k (by rfl) rfl rfl (by first | rfl | (go_simp; done)) ?_
      intro s25 wn ho
      have n0_ := Aside0.mk (And.intro (ho.congr (upd3 _ _ _ _ _) (upd3 _ _ _ _ _)) HQ.out.2)
      clear HQ ho
      have HQ := n0_
      clear n0_
      refine hK.out _ _ (HS.out _ HQ.out.1.bel) (fun hHeld => ?_)
      clear hK K
      refine norm_ (a' := ?_) ?_ ?_
      rotate_left
      · show Act.put _ (some 39) _ = _
        simp only [Act.put, List.setIfInBounds_toArray, List.set_cons_zero, List.set_cons_succ, i64_w, i32_w]
        rfl
      exact norm_ (by first | (simp only [putAll, Act.put, List.setIfInBounds_toArray, List.set_cons_zero, List.set_cons_succ]; done) | (simp only [putAll, Act.put, List.setIfInBounds_toArray, List.set_cons_zero, List.set_cons_succ]; rfl)) (hJ0_6_7_13_25_27 ⟨s0, s6, s7, s13, s25, s27⟩ _ HQ.out)
  intro hJ0_6_7_13_27
  refine join_ (σ := Value × Value × Value × Value) 5 joins1.m31 (fun s_ => [(14, s_.1), (20, s_.2.1), (21, s_.2.2.1), (27, s_.2.2.2)]) (fun s_ w' => JQ w1 w' (q4 s_.2.1 s_.2.2.2 (.slice none 0 0) (.slice none 0 0)) (q4 a b [] []) (.bool false) ∧ (True) ∧ (True)) ?_ ?_
  · rintro ⟨s0, s6, s7, s13⟩ w' hF_
    have HQ := Aside0.mk (show JQ w1 w' (q4 s6 s13 (.slice none 0 0) (.slice none 0 0)) (q4 a b [] []) (.bool false) ∧ (True) ∧ (True) from hF_)
    clear hF_ hHeld
    refine norm_ (a' := ?_) ?_ ?_
    rotate_left
    · simp only [putAll, Act.put, List.setIfInBounds_toArray, List.set_cons_zero, List.set_cons_succ]
      rfl
    refine three_ (i := 19) (j := 25) (k := 27) (Ni := some 33) (Nj := some 39) (Nk := some 7) joins1.m27 joins1.m29 joins1.m30 rfl rfl rfl rfl rfl rfl (three_of HT_.out (by kernel_rfl)) (by decide) (by decide) (by decide) (fun K hK => ?_) (fun K hK => ?_) (fun K hK => ?_)
    · skip
      refine mk_ (m := m0) 2 (by decide) HQ.out.1 hm0k (by rfl) rfl rfl (by first | rfl | (go_simp; done)) ?_
      intro s19 wn ho
      have n0_ := Aside0.mk (And.intro (ho.congr (upd2 _ _ _ _ _) (upd2 _ _ _ _ _)) HQ.out.2)
      clear HQ ho
      have HQ := n0_
      clear n0_
      refine hK.out _ _ (HS.out _ HQ.out.1.bel) (fun hHeld => ?_)
      clear hK K
      refine norm_ (a' := ?_) ?_ ?_
      rotate_left
      · show Act.put _ (some 33) _ = _
        simp only [Act.put, List.setIfInBounds_toArray, List.set_cons_zero, List.set_cons_succ, i64_w, i32_w]
        rfl
      exact norm_ (by first | (simp only [putAll, Act.put, List.setIfInBounds_toArray, List.set_cons_zero, List.set_cons_succ]; done) | (simp only [putAll, Act.put, List.setIfInBounds_toArray, List.set_cons_zero, List.set_cons_succ]; rfl)) (hJ0_6_7_13_19 ⟨s0, s6, s7, s13, s19⟩ _ HQ.out)
    · skip
      refine mk_ (m := m1) 3 (by decide) HQ.out.1 hm1k (by rfl) rfl rfl (by first | rfl | (go_simp; done)) ?_
      intro s25 wn ho
      have n0_ := Aside0.mk (And.intro (ho.congr (upd3 _ _ _ _ _) (upd3 _ _ _ _ _)) HQ.out.2)
      clear HQ ho
      have HQ := n0_
      clear n0_
      refine hK.out _ _ (HS.out _ HQ.out.1.bel) (fun hHeld => ?_)
      clear hK K
      refine norm_ (a' := ?_) ?_ ?_
      rotate_left
      · show Act.put _ (some 39) _ = _
        simp only [Act.put, List.setIfInBounds_toArray, List.set_cons_zero, List.set_cons_succ, i64_w, i32_w]
        rfl
      exact norm_ (by first | (simp only [putAll, Act.put, List.setIfInBounds_toArray, List.set_cons_zero, List.set_cons_succ]; done) | (simp only [putAll, Act.put, List.setIfInBounds_toArray, List.set_cons_zero, List.set_cons_succ]; rfl)) (hJ0_6_7_13_25 ⟨s0, s6, s7, s13, s25⟩ _ HQ.out)
    · skip
      refine alloc_ HQ.out.1 (by rfl) rfl (by rfl) ?_
      intro s27 wn ho hp
      have n0_ := Aside0.mk (And.intro ho (And.intro HQ.out.2.1 hp))
      clear HQ ho hp
      have HQ := n0_
      clear n0_
      refine hK.out _ _ (HS.out _ HQ.out.1.bel) (fun hHeld => ?_)
      clear hK K
      refine norm_ (a' := ?_) ?_ ?_
      rotate_left
      · show Act.put _ (some 7) _ = _
        simp only [Act.put, List.setIfInBounds_toArray, List.set_cons_zero, List.set_cons_succ, i64_w, i32_w]
        rfl
      exact norm_ (by first | (simp only [putAll, Act.put, List.setIfInBounds_toArray, List.set_cons_zero, List.set_cons_succ]; done) | (simp only [putAll, Act.put, List.setIfInBounds_toArray, List.set_cons_zero, List.set_cons_succ]; rfl)) (hJ0_6_7_13_27 ⟨s0, s6, s7, s13, s27⟩ _ HQ.out)
  intro hJ0_6_7_13
  refine join_ (σ := Value × Value × Value × Value × Value × Value) 3 joins1.m32 (fun s_ => [(14, s_.1), (20, s_.2.1), (21, s_.2.2.1), (33, s_.2.2.2.1), (39, s_.2.2.2.2.1), (7, s_.2.2.2.2.2)]) (fun s_ w' => JQ w1 w' (q4 s_.2.1 s_.2.2.1 s_.2.2.2.1 s_.2.2.2.2.1) (q4 a [] (List.replicate m0 0) (List.replicate m1 0)) s_.2.2.2.2.2 ∧ (True) ∧ (∃ b7, s_.2.2.2.2.2 = Value.pointer (some ⟨b7, 0, none⟩))) ?_ ?_
  · rintro ⟨s0, s6, s7, s19, s25, s27⟩ w' hF_
    have HQ := Aside0.mk (show JQ w1 w' (q4 s6 s7 s19 s25) (q4 a [] (List.replicate m0 0) (List.replicate m1 0)) s27 ∧ (True) ∧ (∃ b7, s27 = Value.pointer (some ⟨b7, 0, none⟩)) from hF_)
    clear hF_ hHeld
    refine norm_ (a' := ?_) ?_ ?_
    rotate_left
    · simp only [putAll, Act.put, List.setIfInBounds_toArray, List.set_cons_zero, List.set_cons_succ]
      rfl
    refine one_ (i := 13) (N := some 27) joins1.m24 rfl rfl (one_of HT_.out (by kernel_rfl)) (by decide) (fun K hK => ?_)
    · skip
      refine app_ (k := c1) 1 (by decide) HQ.out.1 rfl (HBb.out _ HQ.out.1.bel) hM1 (by rfl) rfl rfl (by first | rfl | (go_simp; done)) (by first | rfl | (go_simp; done)) ?_
      intro s13 wn ho
      have n0_ := Aside0.mk (And.intro (ho.congr (upd1 _ _ _ _ _) (upd1 _ _ _ _ _)) HQ.out.2)
      clear HQ ho
      have HQ := n0_
      clear n0_
      refine hK.out _ _ (HS.out _ HQ.out.1.bel) (fun hHeld => ?_)
      clear hK K
      refine norm_ (a' := ?_) ?_ ?_
      rotate_left
      · show Act.put _ (some 27) _ = _
        simp only [Act.put, List.setIfInBounds_toArray, List.set_cons_zero, List.set_cons_succ, i64_w, i32_w]
        rfl
      exact norm_ (by first | (simp only [putAll, Act.put, List.setIfInBounds_toArray, List.set_cons_zero, List.set_cons_succ]; done) | (simp only [putAll, Act.put, List.setIfInBounds_toArray, List.set_cons_zero, List.set_cons_succ]; rfl)) (hJ0_6_7_13_19_25_27 ⟨s0, s6, s7, s13, s19, s25, s27⟩ _ HQ.out)
  intro hJ0_6_7_19_25_27
  refine join_ (σ := Value × Value × Value × Value × Value) 4 joins1.m33 (fun s_ => [(14, s_.1), (20, s_.2.1), (21, s_.2.2.1), (33, s_.2.2.2.1), (39, s_.2.2.2.2)]) (fun s_ w' => JQ w1 w' (q4 s_.2.1 s_.2.2.1 s_.2.2.2.1 s_.2.2.2.2) (q4 a [] (List.replicate m0 0) (List.replicate m1 0)) (.bool false) ∧ (True) ∧ (True)) ?_ ?_
  · rintro ⟨s0, s6, s7, s19, s25⟩ w' hF_
    have HQ := Aside0.mk (show JQ w1 w' (q4 s6 s7 s19 s25) (q4 a [] (List.replicate m0 0) (List.replicate m1 0)) (.bool false) ∧ (True) ∧ (True) from hF_)
    clear hF_ hHeld
    refine norm_ (a' := ?_) ?_ ?_
    rotate_left
    · simp only [putAll, Act.put, List.setIfInBounds_toArray, List.set_cons_zero, List.set_cons_succ]
      rfl
    refine two_ (i := 13) (j := 27) (Ni := some 27) (Nj := some 7) joins1.m25 joins1.m32 rfl rfl rfl rfl (two_of HT_.out (by kernel_rfl)) (by decide) (by decide) (fun K hK => ?_) (fun K hK => ?_)
    · skip
      refine app_ (k := c1) 1 (by decide) HQ.out.1 rfl (HBb.out _ HQ.out.1.bel) hM1 (by rfl) rfl rfl (by first | rfl | (go_simp; done)) (by first | rfl | (go_simp; done)) ?_
      intro s13 wn ho
      have n0_ := Aside0.mk (And.intro (ho.congr (upd1 _ _ _ _ _) (upd1 _ _ _ _ _)) HQ.out.2)
      clear HQ ho
      have HQ := n0_
      clear n0_
      refine hK.out _ _ (HS.out _ HQ.out.1.bel) (fun hHeld => ?_)
      clear hK K
      refine norm_ (a' := ?_) ?_ ?_
      rotate_left
      · show Act.put _ (some 27) _ = _
        simp only [Act.put, List.setIfInBounds_toArray, List.set_cons_zero, List.set_cons_succ, i64_w, i32_w]
        rfl
      exact norm_ (by first | (simp only [putAll, Act.put, List.setIfInBounds_toArray, List.set_cons_zero, List.set_cons_succ]; done) | (simp only [putAll, Act.put, List.setIfInBounds_toArray, List.set_cons_zero, List.set_cons_succ]; rfl)) (hJ0_6_7_13_19_25 ⟨s0, s6, s7, s13, s19, s25⟩ _ HQ.out)
    · skip
      refine alloc_ HQ.out.1 (by rfl) rfl (by rfl) ?_
      intro s27 wn ho hp
      have n0_ := Aside0.mk (And.intro ho (And.intro HQ.out.2.1 hp))
      clear HQ ho hp
      have HQ := n0_
      clear n0_
      refine hK.out _ _ (HS.out _ HQ.out.1.bel) (fun hHeld => ?_)
      clear hK K
      refine norm_ (a' := ?_) ?_ ?_
      rotate_left
      · show Act.put _ (some 7) _ = _
        simp only [Act.put, List.setIfInBounds_toArray, List.set_cons_zero, List.set_cons_succ, i64_w, i32_w]
        rfl
      exact norm_ (by first | (simp only [putAll, Act.put, List.setIfInBounds_toArray, List.set_cons_zero, List.set_cons_succ]; done) | (simp only [putAll, Act.put, List.setIfInBounds_toArray, List.set_cons_zero, List.set_cons_succ]; rfl)) (hJ0_6_7_19_25_27 ⟨s0, s6, s7, s19, s25, s27⟩ _ HQ.out)
  intro hJ0_6_7_19_25
  refine join_ (σ := Value × Value × Value × Value × Value) 4 joins1.m34 (fun s_ => [(14, s_.1), (20, s_.2.1), (21, s_.2.2.1), (33, s_.2.2.2.1), (7, s_.2.2.2.2)]) (fun s_ w' => JQ w1 w' (q4 s_.2.1 s_.2.2.1 s_.2.2.2.1 (.slice none 0 0)) (q4 a [] (List.replicate m0 0) []) s_.2.2.2.2 ∧ (True) ∧ (∃ b7, s_.2.2.2.2 = Value.pointer (some ⟨b7, 0, none⟩))) ?_ ?_
  · rintro ⟨s0, s6, s7, s19, s27⟩ w' hF_
    have HQ := Aside0.mk (show JQ w1 w' (q4 s6 s7 s19 (.slice none 0 0)) (q4 a [] (List.replicate m0 0) []) s27 ∧ (True) ∧ (∃ b7, s27 = Value.pointer (some ⟨b7, 0, none⟩)) from hF_)
    clear hF_ hHeld
    refine norm_ (a' := ?_) ?_ ?_
    rotate_left
    · simp only [putAll, Act.put, List.setIfInBounds_toArray, List.set_cons_zero, List.set_cons_succ]
      rfl
    refine two_ (i := 13) (j := 25) (Ni := some 27) (Nj := some 39) joins1.m26 joins1.m32 rfl rfl rfl rfl (two_of HT_.out (by kernel_rfl)) (by decide) (by decide) (fun K hK => ?_) (fun K hK => ?_)
    · skip
      refine app_ (k := c1) 1 (by decide) HQ.out.1 rfl (HBb.out _ HQ.out.1.bel) hM1 (by rfl) rfl rfl (by first | rfl | (go_simp; done)) (by first | rfl | (go_simp; done)) ?_
      intro s13 wn ho
      have n0_ := Aside0.mk (And.intro (ho.congr (upd1 _ _ _ _ _) (upd1 _ _ _ _ _)) HQ.out.2)
      clear HQ ho
      have HQ := n0_
      clear n0_
      refine hK.out _ _ (HS.out _ HQ.out.1.bel) (fun hHeld => ?_)
      clear hK K
      refine norm_ (a' := ?_) ?_ ?_
      rotate_left
      · show Act.put _ (some 27) _ = _
        simp only [Act.put, List.setIfInBounds_toArray, List.set_cons_zero, List.set_cons_succ, i64_w, i32_w]
        rfl
      exact norm_ (by first | (simp only [putAll, Act.put, List.setIfInBounds_toArray, List.set_cons_zero, List.set_cons_succ]; done) | (simp only [putAll, Act.put, List.setIfInBounds_toArray, List.set_cons_zero, List.set_cons_succ]; rfl)) (hJ0_6_7_13_19_27 ⟨s0, s6, s7, s13, s19, s27⟩ _ HQ.out)
    · skip
      refine mk_ (m := m1) 3 (by decide) HQ.out.1 hm1k (by rfl) rfl rfl (by first | rfl | (go_simp; done)) ?_
      intro s25 wn ho
      have n0_ := Aside0.mk (And.intro (ho.congr (upd3 _ _ _ _ _) (upd3 _ _ _ _ _)) HQ.out.2)
      clear HQ ho
      have HQ := n0_
      clear n0_
      refine hK.out _ _ (HS.out _ HQ.out.1.bel) (fun hHeld => ?_)
      clear hK K
      refine norm_ (a' := ?_) ?_ ?_
      rotate_left
      · show Act.put _ (some 39) _ = _
        simp only [Act.put, List.setIfInBounds_toArray, List.set_cons_zero, List.set_cons_succ, i64_w, i32_w]
        rfl
      exact norm_ (by first | (simp only [putAll, Act.put, List.setIfInBounds_toArray, List.set_cons_zero, List.set_cons_succ]; done) | (simp only [putAll, Act.put, List.setIfInBounds_toArray, List.set_cons_zero, List.set_cons_succ]; rfl)) (hJ0_6_7_19_25_27 ⟨s0, s6, s7, s19, s25, s27⟩ _ HQ.out)
  intro hJ0_6_7_19_27
  refine join_ (σ := Value × Value × Value × Value) 5 joins1.m35 (fun s_ => [(14, s_.1), (20, s_.2.1), (21, s_.2.2.1), (33, s_.2.2.2)]) (fun s_ w' => JQ w1 w' (q4 s_.2.1 s_.2.2.1 s_.2.2.2 (.slice none 0 0)) (q4 a [] (List.replicate m0 0) []) (.bool false) ∧ (True) ∧ (True)) ?_ ?_
  · rintro ⟨s0, s6, s7, s19⟩ w' hF_
    have HQ := Aside0.mk (show JQ w1 w' (q4 s6 s7 s19 (.slice none 0 0)) (q4 a [] (List.replicate m0 0) []) (.bool false) ∧ (True) ∧ (True) from hF_)
    clear hF_ hHeld
    refine norm_ (a' := ?_) ?_ ?_
    rotate_left
    · simp only [putAll, Act.put, List.setIfInBounds_toArray, List.set_cons_zero, List.set_cons_succ]
      rfl
    refine three_ (i := 13) (j := 25) (k := 27) (Ni := some 27) (Nj := some 39) (Nk := some 7) joins1.m27 joins1.m33 joins1.m34 rfl rfl rfl rfl rfl rfl (three_of HT_.out (by kernel_rfl)) (by decide) (by decide) (by decide) (fun K hK => ?_) (fun K hK => ?_) (fun K hK => ?_)
    · skip
      refine app_ (k := c1) 1 (by decide) HQ.out.1 rfl (HBb.out _ HQ.out.1.bel) hM1 (by rfl) rfl rfl (by first | rfl | (go_simp; done)) (by first | rfl | (go_simp; done)) ?_
      intro s13 wn ho
      have n0_ := Aside0.mk (And.intro (ho.congr (upd1 _ _ _ _ _) (upd1 _ _ _ _ _)) HQ.out.2)
      clear HQ ho
      have HQ := n0_
      clear n0_
      refine hK.out _ _ (HS.out _ HQ.out.1.bel) (fun hHeld => ?_)
      clear hK K
      refine norm_ (a' := ?_) ?_ ?_
      rotate_left
      · show Act.put _ (some 27) _ = _
        simp only [Act.put, List.setIfInBounds_toArray, List.set_cons_zero, List.set_cons_succ, i64_w, i32_w]
        rfl
      exact norm_ (by first | (simp only [putAll, Act.put, List.setIfInBounds_toArray, List.set_cons_zero, List.set_cons_succ]; done) | (simp only [putAll, Act.put, List.setIfInBounds_toArray, List.set_cons_zero, List.set_cons_succ]; rfl)) (hJ0_6_7_13_19 ⟨s0, s6, s7, s13, s19⟩ _ HQ.out)
    · skip
      refine mk_ (m := m1) 3 (by decide) HQ.out.1 hm1k (by rfl) rfl rfl (by first | rfl | (go_simp; done)) ?_
      intro s25 wn ho
      have n0_ := Aside0.mk (And.intro (ho.congr (upd3 _ _ _ _ _) (upd3 _ _ _ _ _)) HQ.out.2)
      clear HQ ho
      have HQ := n0_
      clear n0_
      refine hK.out _ _ (HS.out _ HQ.out.1.bel) (fun hHeld => ?_)
      clear hK K
      refine norm_ (a' := ?_) ?_ ?_
      rotate_left
      · show Act.put _ (some 39) _ = _
        simp only [Act.put, List.setIfInBounds_toArray, List.set_cons_zero, List.set_cons_succ, i64_w, i32_w]
        rfl
      exact norm_ (by first | (simp only [putAll, Act.put, List.setIfInBounds_toArray, List.set_cons_zero, List.set_cons_succ]; done) | (simp only [putAll, Act.put, List.setIfInBounds_toArray, List.set_cons_zero, List.set_cons_succ]; rfl)) (hJ0_6_7_19_25 ⟨s0, s6, s7, s19, s25⟩ _ HQ.out)
    · skip
      refine alloc_ HQ.out.1 (by rfl) rfl (by rfl) ?_
      intro s27 wn ho hp
      have n0_ := Aside0.mk (And.intro ho (And.intro HQ.out.2.1 hp))
      clear HQ ho hp
      have HQ := n0_
      clear n0_
      refine hK.out _ _ (HS.out _ HQ.out.1.bel) (fun hHeld => ?_)
      clear hK K
      refine norm_ (a' := ?_) ?_ ?_
      rotate_left
      · show Act.put _ (some 7) _ = _
        simp only [Act.put, List.setIfInBounds_toArray, List.set_cons_zero, List.set_cons_succ, i64_w, i32_w]
        rfl
      exact norm_ (by first | (simp only [putAll, Act.put, List.setIfInBounds_toArray, List.set_cons_zero, List.set_cons_succ]; done) | (simp only [putAll, Act.put, List.setIfInBounds_toArray, List.set_cons_zero, List.set_cons_succ]; rfl)) (hJ0_6_7_19_27 ⟨s0, s6, s7, s19, s27⟩ _ HQ.out)
  intro hJ0_6_7_19
  refine join_ (σ := Value × Value × Value × Value × Value) 4 joins1.m36 (fun s_ => [(14, s_.1), (20, s_.2.1), (21, s_.2.2.1), (39, s_.2.2.2.1), (7, s_.2.2.2.2)]) (fun s_ w' => JQ w1 w' (q4 s_.2.1 s_.2.2.1 (.slice none 0 0) s_.2.2.2.1) (q4 a [] [] (List.replicate m1 0)) s_.2.2.2.2 ∧ (True) ∧ (∃ b7, s_.2.2.2.2 = Value.pointer (some ⟨b7, 0, none⟩))) ?_ ?_
  · rintro ⟨s0, s6, s7, s25, s27⟩ w' hF_
    have HQ := Aside0.mk (show JQ w1 w' (q4 s6 s7 (.slice none 0 0) s25) (q4 a [] [] (List.replicate m1 0)) s27 ∧ (True) ∧ (∃ b7, s27 = Value.pointer (some ⟨b7, 0, none⟩)) from hF_)
    clear hF_ hHeld
    refine norm_ (a' := ?_) ?_ ?_
    rotate_left
    · simp only [putAll, Act.put, List.setIfInBounds_toArray, List.set_cons_zero, List.set_cons_succ]
      rfl
    refine two_ (i := 13) (j := 19) (Ni := some 27) (Nj := some 33) joins1.m28 joins1.m32 rfl rfl rfl rfl (two_of HT_.out (by kernel_rfl)) (by decide) (by decide) (fun K hK => ?_) (fun K hK => ?_)
    · skip
      refine app_ (k := c1) 1 (by decide) HQ.out.1 rfl (HBb.out _ HQ.out.1.bel) hM1 (by rfl) rfl rfl (by first | rfl | (go_simp; done)) (by first | rfl | (go_simp; done)) ?_
      intro s13 wn ho
      have n0_ := Aside0.mk (And.intro (ho.congr (upd1 _ _ _ _ _) (upd1 _ _ _ _ _)) HQ.out.2)
      clear HQ ho
      have HQ := n0_
      clear n0_
      refine hK.out _ _ (HS.out _ HQ.out.1.bel) (fun hHeld => ?_)
      clear hK K
      refine norm_ (a' := ?_) ?_ ?_
      rotate_left
      · show Act.put _ (some 27) _ = _
        simp only [Act.put, List.setIfInBounds_toArray, List.set_cons_zero, List.set_cons_succ, i64_w, i32_w]
        rfl
      exact norm_ (by first | (simp only [putAll, Act.put, List.setIfInBounds_toArray, List.set_cons_zero, List.set_cons_succ]; done) | (simp only [putAll, Act.put, List.setIfInBounds_toArray, List.set_cons_zero, List.set_cons_succ]; rfl)) (hJ0_6_7_13_25_27 ⟨s0, s6, s7, s13, s25, s27⟩ _ HQ.out)
    · skip
      refine mk_ (m := m0) 2 (by decide) HQ.out.1 hm0k (by rfl) rfl rfl (by first | rfl | (go_simp; done)) ?_
      intro s19 wn ho
      have n0_ := Aside0.mk (And.intro (ho.congr (upd2 _ _ _ _ _) (upd2 _ _ _ _ _)) HQ.out.2)
      clear HQ ho
      have HQ := n0_
      clear n0_
      refine hK.out _ _ (HS.out _ HQ.out.1.bel) (fun hHeld => ?_)
      clear hK K
      refine norm_ (a' := ?_) ?_ ?_
      rotate_left
      · show Act.put _ (some 33) _ = _
        simp only [Act.put, List.setIfInBounds_toArray, List.set_cons_zero, List.set_cons_succ, i64_w, i32_w]
        rfl
      exact norm_ (by first | (simp only [putAll, Act.put, List.setIfInBounds_toArray, List.set_cons_zero, List.set_cons_succ]; done) | (simp only [putAll, Act.put, List.setIfInBounds_toArray, List.set_cons_zero, List.set_cons_succ]; rfl)) (hJ0_6_7_19_25_27 ⟨s0, s6, s7, s19, s25, s27⟩ _ HQ.out)
  intro hJ0_6_7_25_27
  refine join_ (σ := Value × Value × Value × Value) 5 joins1.m37 (fun s_ => [(14, s_.1), (20, s_.2.1), (21, s_.2.2.1), (39, s_.2.2.2)]) (fun s_ w' => JQ w1 w' (q4 s_.2.1 s_.2.2.1 (.slice none 0 0) s_.2.2.2) (q4 a [] [] (List.replicate m1 0)) (.bool false) ∧ (True) ∧ (True)) ?_ ?_
  · rintro ⟨s0, s6, s7, s25⟩ w' hF_
    have HQ := Aside0.mk (show JQ w1 w' (q4 s6 s7 (.slice none 0 0) s25) (q4 a [] [] (List.replicate m1 0)) (.bool false) ∧ (True) ∧ (True) from hF_)
    clear hF_ hHeld
    refine norm_ (a' := ?_) ?_ ?_
    rotate_left
    · simp only [putAll, Act.put, List.setIfInBounds_toArray, List.set_cons_zero, List.set_cons_succ]
      rfl
    refine three_ (i := 13) (j := 19) (k := 27) (Ni := some 27) (Nj := some 33) (Nk := some 7) joins1.m29 joins1.m33 joins1.m36 rfl rfl rfl rfl rfl rfl (three_of HT_.out (by kernel_rfl)) (by decide) (by decide) (by decide) (fun K hK => ?_) (fun K hK => ?_) (fun K hK => ?_)
    · skip
      refine app_ (k := c1) 1 (by decide) HQ.out.1 rfl (HBb.out _ HQ.out.1.bel) hM1 (by rfl) rfl rfl (by first | rfl | (go_simp; done)) (by first | rfl | (go_simp; done)) ?_
      intro s13 wn ho
      have n0_ := Aside0.mk (And.intro (ho.congr (upd1 _ _ _ _ _) (upd1 _ _ _ _ _)) HQ.out.2)
      clear HQ ho
      have HQ := n0_
      clear n0_
      refine hK.out _ _ (HS.out _ HQ.out.1.bel) (fun hHeld => ?_)
      clear hK K
      refine norm_ (a' := ?_) ?_ ?_
      rotate_left
      · show Act.put _ (some 27) _ = _
        simp only [Act.put, List.setIfInBounds_toArray, List.set_cons_zero, List.set_cons_succ, i64_w, i32_w]
        rfl
      exact norm_ (by first | (simp only [putAll, Act.put, List.setIfInBounds_toArray, List.set_cons_zero, List.set_cons_succ]; done) | (simp only [putAll, Act.put, List.setIfInBounds_toArray, List.set_cons_zero, List.set_cons_succ]; rfl)) (hJ0_6_7_13_25 ⟨s0, s6, s7, s13, s25⟩ _ HQ.out)
    · skip
      refine mk_ (m := m0) 2 (by decide) HQ.out.1 hm0k (by rfl) rfl rfl (by first | rfl | (go_simp; done)) ?_
      intro s19 wn ho
      have n0_ := Aside0.mk (And.intro (ho.congr (upd2 _ _ _ _ _) (upd2 _ _ _ _ _)) HQ.out.2)
      clear HQ ho
      have HQ := n0_
      clear n0_
      refine hK.out _ _ (HS.out _ HQ.out.1.bel) (fun hHeld => ?_)
      clear hK K
      refine norm_ (a' := ?_) ?_ ?_
      rotate_left
      · show Act.put _ (some 33) _ = _
        simp only [Act.put, List.setIfInBounds_toArray, List.set_cons_zero, List.set_cons_succ, i64_w, i32_w]
        rfl
      exact norm_ (by first | (simp only [putAll, Act.put, List.setIfInBounds_toArray, List.set_cons_zero, List.set_cons_succ]; done) | (simp only [putAll, Act.put, List.setIfInBounds_toArray, List.set_cons_zero, List.set_cons_succ]; rfl)) (hJ0_6_7_19_25 ⟨s0, s6, s7, s19, s25⟩ _ HQ.out)
    · skip
      refine alloc_ HQ.out.1 (by rfl) rfl (by rfl) ?_
      intro s27 wn ho hp
      have n0_ := Aside0.mk (And.intro ho (And.intro HQ.out.2.1 hp))
      clear HQ ho hp
      have HQ := n0_
      clear n0_
      refine hK.out _ _ (HS.out _ HQ.out.1.bel) (fun hHeld => ?_)
      clear hK K
      refine norm_ (a' := ?_) ?_ ?_
      rotate_left
      · show Act.put _ (some 7) _ = _
        simp only [Act.put, List.setIfInBounds_toArray, List.set_cons_zero, List.set_cons_succ, i64_w, i32_w]
        rfl
      exact norm_ (by first | (simp only [putAll, Act.put, List.setIfInBounds_toArray, List.set_cons_zero, List.set_cons_succ]; done) | (simp only [putAll, Act.put, List.setIfInBounds_toArray, List.set_cons_zero, List.set_cons_succ]; rfl)) (hJ0_6_7_25_27 ⟨s0, s6, s7, s25, s27⟩ _ HQ.out)
  intro hJ0_6_7_25
  refine join_ (σ := Value × Value × Value × Value) 5 joins1.m38 (fun s_ => [(14, s_.1), (20, s_.2.1), (21, s_.2.2.1), (7, s_.2.2.2)]) (fun s_ w' => JQ w1 w' (q4 s_.2.1 s_.2.2.1 (.slice none 0 0) (.slice none 0 0)) (q4 a [] [] []) s_.2.2.2 ∧ (True) ∧ (∃ b7, s_.2.2.2 = Value.pointer (some ⟨b7, 0, none⟩))) ?_ ?_
  · rintro ⟨s0, s6, s7, s27⟩ w' hF_
    have HQ := Aside0.mk (show JQ w1 w' (q4 s6 s7 (.slice none 0 0) (.slice none 0 0)) (q4 a [] [] []) s27 ∧ (True) ∧ (∃ b7, s27 = Value.pointer (some ⟨b7, 0, none⟩)) from hF_)
    clear hF_ hHeld
    refine norm_ (a' := ?_) ?_ ?_
    rotate_left
    · simp only [putAll, Act.put, List.setIfInBounds_toArray, List.set_cons_zero, List.set_cons_succ]
      rfl
    refine three_ (i := 13) (j := 19) (k := 25) (Ni := some 27) (Nj := some 33) (Nk := some 39) joins1.m30 joins1.m34 joins1.m36 rfl rfl rfl rfl rfl rfl (three_of HT_.out (by kernel_rfl)) (by decide) (by decide) (by decide) (fun K hK => ?_) (fun K hK => ?_) (fun K hK => ?_)
    · skip
      refine app_ (k := c1) 1 (by decide) HQ.out.1 rfl (HBb.out _ HQ.out.1.bel) hM1 (by rfl) rfl rfl (by first | rfl | (go_simp; done)) (by first | rfl | (go_simp; done)) ?_
      intro s13 wn ho
      have n0_ := Aside0.mk (And.intro (ho.congr (upd1 _ _ _ _ _) (upd1 _ _ _ _ _)) HQ.out.2)
      clear HQ ho
      have HQ := n0_
      clear n0_
      refine hK.out _ _ (HS.out _ HQ.out.1.bel) (fun hHeld => ?_)
      clear hK K
      refine norm_ (a' := ?_) ?_ ?_
      rotate_left
      · show Act.put _ (some 27) _ = _
        simp only [Act.put, List.setIfInBounds_toArray, List.set_cons_zero, List.set_cons_succ, i64_w, i32_w]
        rfl
      exact norm_ (by first | (simp only [putAll, Act.put, List.setIfInBounds_toArray, List.set_cons_zero, List.set_cons_succ]; done) | (simp only [putAll, Act.put, List.setIfInBounds_toArray, List.set_cons_zero, List.set_cons_succ]; rfl)) (hJ0_6_7_13_27 ⟨s0, s6, s7, s13, s27⟩ _ HQ.out)
    · skip
      refine mk_ (m := m0) 2 (by decide) HQ.out.1 hm0k (by rfl) rfl rfl (by first | rfl | (go_simp; done)) ?_
      intro s19 wn ho
      have n0_ := Aside0.mk (And.intro (ho.congr (upd2 _ _ _ _ _) (upd2 _ _ _ _ _)) HQ.out.2)
      clear HQ ho
      have HQ := n0_
      clear n0_
      refine hK.out _ _ (HS.out _ HQ.out.1.bel) (fun hHeld => ?_)
      clear hK K
      refine norm_ (a' := ?_) ?_ ?_
      rotate_left
      · show Act.put _ (some 33) _ = _
        simp only [Act.put, List.setIfInBounds_toArray, List.set_cons_zero, List.set_cons_succ, i64_w, i32_w]
        rfl
      exact norm_ (by first | (simp only [putAll, Act.put, List.setIfInBounds_toArray, List.set_cons_zero, List.set_cons_succ]; done) | (simp only [putAll, Act.put, List.setIfInBounds_toArray, List.set_cons_zero, List.set_cons_succ]; rfl)) (hJ0_6_7_19_27 ⟨s0, s6, s7, s19, s27⟩ _ HQ.out)
    · skip
      refine mk_ (m := m1) 3 (by decide) HQ.out.1 hm1k (by rfl) rfl rfl (by first | rfl | (go_simp; done)) ?_
      intro s25 wn ho
      have n0_ := Aside0.mk (And.intro (ho.congr (upd3 _ _ _ _ _) (upd3 _ _ _ _ _)) HQ.out.2)
      clear HQ ho
      have HQ := n0_
      clear n0_
      refine hK.out _ _ (HS.out _ HQ.out.1.bel) (fun hHeld => ?_)
      clear hK K
      refine norm_ (a' := ?_) ?_ ?_
      rotate_left
      · show Act.put _ (some 39) _ = _
        simp only [Act.put, List.setIfInBounds_toArray, List.set_cons_zero, List.set_cons_succ, i64_w, i32_w]
        rfl
      exact norm_ (by first | (simp only [putAll, Act.put, List.setIfInBounds_toArray, List.set_cons_zero, List.set_cons_succ]; done) | (simp only [putAll, Act.put, List.setIfInBounds_toArray, List.set_cons_zero, List.set_cons_succ]; rfl)) (hJ0_6_7_25_27 ⟨s0, s6, s7, s25, s27⟩ _ HQ.out)
  intro hJ0_6_7_27
  refine join_ (σ := Value × Value × Value) 6 joins1.m39 (fun s_ => [(14, s_.1), (20, s_.2.1), (21, s_.2.2)]) (fun s_ w' => JQ w1 w' (q4 s_.2.1 s_.2.2 (.slice none 0 0) (.slice none 0 0)) (q4 a [] [] []) (.bool false) ∧ (True) ∧ (True)) ?_ ?_
  · rintro ⟨s0, s6, s7⟩ w' hF_
    have HQ := Aside0.mk (show JQ w1 w' (q4 s6 s7 (.slice none 0 0) (.slice none 0 0)) (q4 a [] [] []) (.bool false) ∧ (True) ∧ (True) from hF_)
    clear hF_ hHeld
    refine norm_ (a' := ?_) ?_ ?_
    rotate_left
    · simp only [putAll, Act.put, List.setIfInBounds_toArray, List.set_cons_zero, List.set_cons_succ]
      rfl
    refine four_ (i := 13) (j := 19) (k := 25) (m := 27) (Ni := some 27) (Nj := some 33) (Nk := some 39) (Nm := some 7) joins1.m31 joins1.m35 joins1.m37 joins1.m38 rfl rfl rfl rfl rfl rfl rfl rfl (four_of HT_.out (by kernel_rfl)) (by decide) (by decide) (by decide) (by decide) (fun K hK => ?_) (fun K hK => ?_) (fun K hK => ?_) (fun K hK => ?_)
    · skip
      refine app_ (k := c1) 1 (by decide) HQ.out.1 rfl (HBb.out _ HQ.out.1.bel) hM1 (by rfl) rfl rfl (by first | rfl | (go_simp; done)) (by first | rfl | (go_simp; done)) ?_
      intro s13 wn ho
      have n0_ := Aside0.mk (And.intro (ho.congr (upd1 _ _ _ _ _) (upd1 _ _ _ _ _)) HQ.out.2)
      clear HQ ho
      have HQ := n0_
      clear n0_
      refine hK.out _ _ (HS.out _ HQ.out.1.bel) (fun hHeld => ?_)
      clear hK K
      refine norm_ (a' := ?_) ?_ ?_
      rotate_left
      · show Act.put _ (some 27) _ = _
        simp only [Act.put, List.setIfInBounds_toArray, List.set_cons_zero, List.set_cons_succ, i64_w, i32_w]
        rfl
      exact norm_ (by first | (simp only [putAll, Act.put, List.setIfInBounds_toArray, List.set_cons_zero, List.set_cons_succ]; done) | (simp only [putAll, Act.put, List.setIfInBounds_toArray, List.set_cons_zero, List.set_cons_succ]; rfl)) (hJ0_6_7_13 ⟨s0, s6, s7, s13⟩ _ HQ.out)
    · skip
      refine mk_ (m := m0) 2 (by decide) HQ.out.1 hm0k (by rfl) rfl rfl (by first | rfl | (go_simp; done)) ?_
      intro s19 wn ho
      have n0_ := Aside0.mk (And.intro (ho.congr (upd2 _ _ _ _ _) (upd2 _ _ _ _ _)) HQ.out.2)
      clear HQ ho
      have HQ := n0_
      clear n0_
      refine hK.out _ _ (HS.out _ HQ.out.1.bel) (fun hHeld => ?_)
      clear hK K
      refine norm_ (a' := ?_) ?_ ?_
      rotate_left
      · show Act.put _ (some 33) _ = _
        simp only [Act.put, List.setIfInBounds_toArray, List.set_cons_zero, List.set_cons_succ, i64_w, i32_w]
        rfl
      exact norm_ (by first | (simp only [putAll, Act.put, List.setIfInBounds_toArray, List.set_cons_zero, List.set_cons_succ]; done) | (simp only [putAll, Act.put, List.setIfInBounds_toArray, List.set_cons_zero, List.set_cons_succ]; rfl)) (hJ0_6_7_19 ⟨s0, s6, s7, s19⟩ _ HQ.out)
    · skip
      refine mk_ (m := m1) 3 (by decide) HQ.out.1 hm1k (by rfl) rfl rfl (by first | rfl | (go_simp; done)) ?_
      intro s25 wn ho
      have n0_ := Aside0.mk (And.intro (ho.congr (upd3 _ _ _ _ _) (upd3 _ _ _ _ _)) HQ.out.2)
      clear HQ ho
      have HQ := n0_
      clear n0_
      refine hK.out _ _ (HS.out _ HQ.out.1.bel) (fun hHeld => ?_)
      clear hK K
      refine norm_ (a' := ?_) ?_ ?_
      rotate_left
      · show Act.put _ (some 39) _ = _
        simp only [Act.put, List.setIfInBounds_toArray, List.set_cons_zero, List.set_cons_succ, i64_w, i32_w]
        rfl
      exact norm_ (by first | (simp only [putAll, Act.put, List.setIfInBounds_toArray, List.set_cons_zero, List.set_cons_succ]; done) | (simp only [putAll, Act.put, List.setIfInBounds_toArray, List.set_cons_zero, List.set_cons_succ]; rfl)) (hJ0_6_7_25 ⟨s0, s6, s7, s25⟩ _ HQ.out)
    · skip
      refine alloc_ HQ.out.1 (by rfl) rfl (by rfl) ?_
      intro s27 wn ho hp
      have n0_ := Aside0.mk (And.intro ho (And.intro HQ.out.2.1 hp))
      clear HQ ho hp
      have HQ := n0_
      clear n0_
      refine hK.out _ _ (HS.out _ HQ.out.1.bel) (fun hHeld => ?_)
      clear hK K
      refine norm_ (a' := ?_) ?_ ?_
      rotate_left
      · show Act.put _ (some 7) _ = _
        simp only [Act.put, List.setIfInBounds_toArray, List.set_cons_zero, List.set_cons_succ, i64_w, i32_w]
        rfl
      exact norm_ (by first | (simp only [putAll, Act.put, List.setIfInBounds_toArray, List.set_cons_zero, List.set_cons_succ]; done) | (simp only [putAll, Act.put, List.setIfInBounds_toArray, List.set_cons_zero, List.set_cons_succ]; rfl)) (hJ0_6_7_27 ⟨s0, s6, s7, s27⟩ _ HQ.out)
  intro hJ0_6_7
  refine join_ (σ := Value × Value × Value × Value × Value) 4 joins1.m40 (fun s_ => [(14, s_.1), (20, s_.2.1), (33, s_.2.2.1), (39, s_.2.2.2.1), (7, s_.2.2.2.2)]) (fun s_ w' => JQ w1 w' (q4 s_.2.1 (.slice none 0 0) s_.2.2.1 s_.2.2.2.1) (q4 a [] (List.replicate m0 0) (List.replicate m1 0)) s_.2.2.2.2 ∧ (True) ∧ (∃ b7, s_.2.2.2.2 = Value.pointer (some ⟨b7, 0, none⟩))) ?_ ?_
  · rintro ⟨s0, s6, s19, s25, s27⟩ w' hF_
    have HQ := Aside0.mk (show JQ w1 w' (q4 s6 (.slice none 0 0) s19 s25) (q4 a [] (List.replicate m0 0) (List.replicate m1 0)) s27 ∧ (True) ∧ (∃ b7, s27 = Value.pointer (some ⟨b7, 0, none⟩)) from hF_)
    clear hF_ hHeld
    refine norm_ (a' := ?_) ?_ ?_
    rotate_left
    · simp only [putAll, Act.put, List.setIfInBounds_toArray, List.set_cons_zero, List.set_cons_succ]
      rfl
    refine one_ (i := 7) (N := some 21) joins1.m32 rfl rfl (one_of HT_.out (by kernel_rfl)) (by decide) (fun K hK => ?_)
    · skip
      refine lit_ 1 (by decide) HQ.out.1 (by rfl) rfl (by rfl) ?_
      intro s7 wn ho
      have n0_ := Aside0.mk (And.intro (ho.congr (upd1 _ _ _ _ _) (upd1 _ _ _ _ _)) HQ.out.2)
      clear HQ ho
      have HQ := n0_
      clear n0_
      refine hK.out _ _ (HS.out _ HQ.out.1.bel) (fun hHeld => ?_)
      clear hK K
      refine norm_ (a' := ?_) ?_ ?_
      rotate_left
      · show Act.put _ (some 21) _ = _
        simp only [Act.put, List.setIfInBounds_toArray, List.set_cons_zero, List.set_cons_succ, i64_w, i32_w]
        rfl
      exact norm_ (by first | (simp only [putAll, Act.put, List.setIfInBounds_toArray, List.set_cons_zero, List.set_cons_succ]; done) | (simp only [putAll, Act.put, List.setIfInBounds_toArray, List.set_cons_zero, List.set_cons_succ]; rfl)) (hJ0_6_7_19_25_27 ⟨s0, s6, s7, s19, s25, s27⟩ _ HQ.out)
  intro hJ0_6_19_25_27
  refine join_ (σ := Value × Value × Value × Value) 5 joins1.m41 (fun s_ => [(14, s_.1), (20, s_.2.1), (33, s_.2.2.1), (39, s_.2.2.2)]) (fun s_ w' => JQ w1 w' (q4 s_.2.1 (.slice none 0 0) s_.2.2.1 s_.2.2.2) (q4 a [] (List.replicate m0 0) (List.replicate m1 0)) (.bool false) ∧ (True) ∧ (True)) ?_ ?_
  · rintro ⟨s0, s6, s19, s25⟩ w' hF_
    have HQ := Aside0.mk (show JQ w1 w' (q4 s6 (.slice none 0 0) s19 s25) (q4 a [] (List.replicate m0 0) (List.replicate m1 0)) (.bool false) ∧ (True) ∧ (True) from hF_)
    clear hF_ hHeld
    refine norm_ (a' := ?_) ?_ ?_
    rotate_left
    · simp only [putAll, Act.put, List.setIfInBounds_toArray, List.set_cons_zero, List.set_cons_succ]
      rfl
    refine two_ (i := 7) (j := 27) (Ni := some 21) (Nj := some 7) joins1.m33 joins1.m40 rfl rfl rfl rfl (two_of HT_.out (by kernel_rfl)) (by decide) (by decide) (fun K hK => ?_) (fun K hK => ?_)
    · skip
      refine lit_ 1 (by decide) HQ.out.1 (by rfl) rfl (by rfl) ?_
      intro s7 wn ho
      have n0_ := Aside0.mk (And.intro (ho.congr (upd1 _ _ _ _ _) (upd1 _ _ _ _ _)) HQ.out.2)
      clear HQ ho
      have HQ := n0_
      clear n0_
      refine hK.out _ _ (HS.out _ HQ.out.1.bel) (fun hHeld => ?_)
      clear hK K
      refine norm_ (a' := ?_) ?_ ?_
      rotate_left
      · show Act.put _ (some 21) _ = _
        simp only [Act.put, List.setIfInBounds_toArray, List.set_cons_zero, List.set_cons_succ, i64_w, i32_w]
        rfl
      exact norm_ (by first | (simp only [putAll, Act.put, List.setIfInBounds_toArray, List.set_cons_zero, List.set_cons_succ]; done) | (simp only [putAll, Act.put, List.setIfInBounds_toArray, List.set_cons_zero, List.set_cons_succ]; rfl)) (hJ0_6_7_19_25 ⟨s0, s6, s7, s19, s25⟩ _ HQ.out)
    · skip
      refine alloc_ HQ.out.1 (by rfl) rfl (by rfl) ?_
      intro s27 wn ho hp
      have n0_ := Aside0.mk (And.intro ho (And.intro HQ.out.2.1 hp))
      clear HQ ho hp
      have HQ := n0_
      clear n0_
      refine hK.out _ _ (HS.out _ HQ.out.1.bel) (fun hHeld => ?_)
      clear hK K
      refine norm_ (a' := ?_) ?_ ?_
      rotate_left
      · show Act.put _ (some 7) _ = _
        simp only [Act.put, List.setIfInBounds_toArray, List.set_cons_zero, List.set_cons_succ, i64_w, i32_w]
        rfl
      exact norm_ (by first | (simp only [putAll, Act.put, List.setIfInBounds_toArray, List.set_cons_zero, List.set_cons_succ]; done) | (simp only [putAll, Act.put, List.setIfInBounds_toArray, List.set_cons_zero, List.set_cons_succ]; rfl)) (hJ0_6_19_25_27 ⟨s0, s6, s19, s25, s27⟩ _ HQ.out)
  intro hJ0_6_19_25
  refine join_ (σ := Value × Value × Value × Value) 5 joins1.m42 (fun s_ => [(14, s_.1), (20, s_.2.1), (33, s_.2.2.1), (7, s_.2.2.2)]) (fun s_ w' => JQ w1 w' (q4 s_.2.1 (.slice none 0 0) s_.2.2.1 (.slice none 0 0)) (q4 a [] (List.replicate m0 0) []) s_.2.2.2 ∧ (True) ∧ (∃ b7, s_.2.2.2 = Value.pointer (some ⟨b7, 0, none⟩))) ?_ ?_
  · rintro ⟨s0, s6, s19, s27⟩ w' hF_
    have HQ := Aside0.mk (show JQ w1 w' (q4 s6 (.slice none 0 0) s19 (.slice none 0 0)) (q4 a [] (List.replicate m0 0) []) s27 ∧ (True) ∧ (∃ b7, s27 = Value.pointer (some ⟨b7, 0, none⟩)) from hF_)
    clear hF_ hHeld
    refine norm_ (a' := ?_) ?_ ?_
    rotate_left
    · simp only [putAll, Act.put, List.setIfInBounds_toArray, List.set_cons_zero, List.set_cons_succ]
      rfl
    refine two_ (i := 7) (j := 25) (Ni := some 21) (Nj := some 39) joins1.m34 joins1.m40 rfl rfl rfl rfl (two_of HT_.out (by kernel_rfl)) (by decide) (by decide) (fun K hK => ?_) (fun K hK => ?_)
    · skip
      refine lit_ 1 (by decide) HQ.out.1 (by rfl) rfl (by rfl) ?_
      intro s7 wn ho
      have n0_ := Aside0.mk (And.intro (ho.congr (upd1 _ _ _ _ _) (upd1 _ _ _ _ _)) HQ.out.2)
      clear HQ ho
      have HQ := n0_
      clear n0_
      refine hK.out _ _ (HS.out _ HQ.out.1.bel) (fun hHeld => ?_)
      clear hK K
      refine norm_ (a' := ?_) ?_ ?_
      rotate_left
      · show Act.put _ (some 21) _ = _
        simp only [Act.put, List.setIfInBounds_toArray, List.set_cons_zero, List.set_cons_succ, i64_w, i32_w]
        rfl
      exact norm_ (by first | (simp only [putAll, Act.put, List.setIfInBounds_toArray, List.set_cons_zero, List.set_cons_succ]; done) | (simp only [putAll, Act.put, List.setIfInBounds_toArray, List.set_cons_zero, List.set_cons_succ]; rfl)) (hJ0_6_7_19_27 ⟨s0, s6, s7, s19, s27⟩ _ HQ.out)
    · skip
      refine mk_ (m := m1) 3 (by decide) HQ.out.1 hm1k (by rfl) rfl rfl (by first | rfl | (go_simp; done)) ?_
      intro s25 wn ho
      have n0_ := Aside0.mk (And.intro (ho.congr (upd3 _ _ _ _ _) (upd3 _ _ _ _ _)) HQ.out.2)
      clear HQ ho
      have HQ := n0_
      clear n0_
      refine hK.out _ _ (HS.out _ HQ.out.1.bel) (fun hHeld => ?_)
      clear hK K
      refine norm_ (a' := ?_) ?_ ?_
      rotate_left
      · show Act.put _ (some 39) _ = _
        simp only [Act.put, List.setIfInBounds_toArray, List.set_cons_zero, List.set_cons_succ, i64_w, i32_w]
        rfl
      exact norm_ (by first | (simp only [putAll, Act.put, List.setIfInBounds_toArray, List.set_cons_zero, List.set_cons_succ]; done) | (simp only [putAll, Act.put, List.setIfInBounds_toArray, List.set_cons_zero, List.set_cons_succ]; rfl)) (hJ0_6_19_25_27 ⟨s0, s6, s19, s25, s27⟩ _ HQ.out)
  intro hJ0_6_19_27
  refine join_ (σ := Value × Value × Value) 6 joins1.m43 (fun s_ => [(14, s_.1), (20, s_.2.1), (33, s_.2.2)]) (fun s_ w' => JQ w1 w' (q4 s_.2.1 (.slice none 0 0) s_.2.2 (.slice none 0 0)) (q4 a [] (List.replicate m0 0) []) (.bool false) ∧ (True) ∧ (True)) ?_ ?_
  · rintro ⟨s0, s6, s19⟩ w' hF_
    have HQ := Aside0.mk (show JQ w1 w' (q4 s6 (.slice none 0 0) s19 (.slice none 0 0)) (q4 a [] (List.replicate m0 0) []) (.bool false) ∧ (True) ∧ (True) from hF_)
    clear hF_ hHeld
    refine norm_ (a' := ?_) ?_ ?_
    rotate_left
    · simp only [putAll, Act.put, List.setIfInBounds_toArray, List.set_cons_zero, List.set_cons_succ]
      rfl
    refine three_ (i := 7) (j := 25) (k := 27) (Ni := some 21) (Nj := some 39) (Nk := some 7) joins1.m35 joins1.m41 joins1.m42 rfl rfl rfl rfl rfl rfl (three_of HT_.out (by kernel_rfl)) (by decide) (by decide) (by decide) (fun K hK => ?_) (fun K hK => ?_) (fun K hK => ?_)
    · skip
      refine lit_ 1 (by decide) HQ.out.1 (by rfl) rfl (by rfl) ?_
      intro s7 wn ho
      have n0_ := Aside0.mk (And.intro (ho.congr (upd1 _ _ _ _ _) (upd1 _ _ _ _ _)) HQ.out.2)
      clear HQ ho
      have HQ := n0_
      clear n0_
      refine hK.out _ _ (HS.out _ HQ.out.1.bel) (fun hHeld => ?_)
      clear hK K
      refine norm_ (a' := ?_) ?_ ?_
      rotate_left
      · show Act.put _ (some 21) _ = _
        simp only [Act.put, List.setIfInBounds_toArray, List.set_cons_zero, List.set_cons_succ, i64_w, i32_w]
        rfl
      exact norm_ (by first | (simp only [putAll, Act.put, List.setIfInBounds_toArray, List.set_cons_zero, List.set_cons_succ]; done) | (simp only [putAll, Act.put, List.setIfInBounds_toArray, List.set_cons_zero, List.set_cons_succ]; rfl)) (hJ0_6_7_19 ⟨s0, s6, s7, s19⟩ _ HQ.out)
    · skip
      refine mk_ (m := m1) 3 (by decide) HQ.out.1 hm1k (by rfl) rfl rfl (by first | rfl | (go_simp; done)) ?_
      intro s25 wn ho
      have n0_ := Aside0.mk (And.intro (ho.congr (upd3 _ _ _ _ _) (upd3 _ _ _ _ _)) HQ.out.2)
      clear HQ ho
      have HQ := n0_
      clear n0_
      refine hK.out _ _ (HS.out _ HQ.out.1.bel) (fun hHeld => ?_)
      clear hK K
      refine norm_ (a' := ?_) ?_ ?_
      rotate_left
      · show Act.put _ (some 39) _ = _
        simp only [Act.put, List.setIfInBounds_toArray, List.set_cons_zero, List.set_cons_succ, i64_w, i32_w]
        rfl
      exact norm_ (by first | (simp only [putAll, Act.put, List.setIfInBounds_toArray, List.set_cons_zero, List.set_cons_succ]; done) | (simp only [putAll, Act.put, List.setIfInBounds_toArray, List.set_cons_zero, List.set_cons_succ]; rfl)) (hJ0_6_19_25 ⟨s0, s6, s19, s25⟩ _ HQ.out)
    · skip
      refine alloc_ HQ.out.1 (by rfl) rfl (by rfl) ?_
      intro s27 wn ho hp
      have n0_ := Aside0.mk (And.intro ho (And.intro HQ.out.2.1 hp))
      clear HQ ho hp
      have HQ := n0_
      clear n0_
      refine hK.out _ _ (HS.out _ HQ.out.1.bel) (fun hHeld => ?_)
      clear hK K
      refine norm_ (a' := ?_) ?_ ?_
      rotate_left
      · show Act.put _ (some 7) _ = _
        simp only [Act.put, List.setIfInBounds_toArray, List.set_cons_zero, List.set_cons_succ, i64_w, i32_w]
        rfl
      exact norm_ (by first | (simp only [putAll, Act.put, List.setIfInBounds_toArray, List.set_cons_zero, List.set_cons_succ]; done) | (simp only [putAll, Act.put, List.setIfInBounds_toArray, List.set_cons_zero, List.set_cons_succ]; rfl)) (hJ0_6_19_27 ⟨s0, s6, s19, s27⟩ _ HQ.out)
  intro hJ0_6_19
  refine join_ (σ := Value × Value × Value × Value) 5 joins1.m44 (fun s_ => [(14, s_.1), (20, s_.2.1), (39, s_.2.2.1), (7, s_.2.2.2)]) (fun s_ w' => JQ w1 w' (q4 s_.2.1 (.slice none 0 0) (.slice none 0 0) s_.2.2.1) (q4 a [] [] (List.replicate m1 0)) s_.2.2.2 ∧ (True) ∧ (∃ b7, s_.2.2.2 = Value.pointer (some ⟨b7, 0, none⟩))) ?_ ?_
  · rintro ⟨s0, s6, s25, s27⟩ w' hF_
    have HQ := Aside0.mk (show JQ w1 w' (q4 s6 (.slice none 0 0) (.slice none 0 0) s25) (q4 a [] [] (List.replicate m1 0)) s27 ∧ (True) ∧ (∃ b7, s27 = Value.pointer (some ⟨b7, 0, none⟩)) from hF_)
    clear hF_ hHeld
    refine norm_ (a' := ?_) ?_ ?_
    rotate_left
    · simp only [putAll, Act.put, List.setIfInBounds_toArray, List.set_cons_zero, List.set_cons_succ]
      rfl
    refine two_ (i := 7) (j := 19) (Ni := some 21) (Nj := some 33) joins1.m36 joins1.m40 rfl rfl rfl rfl (two_of HT_.out (by kernel_rfl)) (by decide) (by decide) (fun K hK => ?_) (fun K hK => ?_)
    · skip
      refine lit_ 1 (by decide) HQ.out.1 (by rfl) rfl (by rfl) ?_
      intro s7 wn ho
      have n0_ := Aside0.mk (And.intro (ho.congr (upd1 _ _ _ _ _) (upd1 _ _ _ _ _)) HQ.out.2)
      clear HQ ho
      have HQ := n0_
      clear n0_
      refine hK.out _ _ (HS.out _ HQ.out.1.bel) (fun hHeld => ?_)
      clear hK K
      refine norm_ (a' := ?_) ?_ ?_
      rotate_left
      · show Act.put _ (some 21) _ = _
        simp only [Act.put, List.setIfInBounds_toArray, List.set_cons_zero, List.set_cons_succ, i64_w, i32_w]
        rfl
      exact norm_ (by first | (simp only [putAll, Act.put, List.setIfInBounds_toArray, List.set_cons_zero, List.set_cons_succ]; done) | (simp only [putAll, Act.put, List.setIfInBounds_toArray, List.set_cons_zero, List.set_cons_succ]; rfl)) (hJ0_6_7_25_27 ⟨s0, s6, s7, s25, s27⟩ _ HQ.out)
    · skip
      refine mk_ (m := m0) 2 (by decide) HQ.out.1 hm0k (by rfl) rfl rfl (by first | rfl | (go_simp; done)) ?_
      intro s19 wn ho
      have n0_ := Aside0.mk (And.intro (ho.congr (upd2 _ _ _ _ _) (upd2 _ _ _ _ _)) HQ.out.2)
      clear HQ ho
      have HQ := n0_
      clear n0_
      refine hK.out _ _ (HS.out _ HQ.out.1.bel) (fun hHeld => ?_)
      clear hK K
      refine norm_ (a' := ?_) ?_ ?_
      rotate_left
      · show Act.put _ (some 33) _ = _
        simp only [Act.put, List.setIfInBounds_toArray, List.set_cons_zero, List.set_cons_succ, i64_w, i32_w]
        rfl
      exact norm_ (by first | (simp only [putAll, Act.put, List.setIfInBounds_toArray, List.set_cons_zero, List.set_cons_succ]; done) | (simp only [putAll, Act.put, List.setIfInBounds_toArray, List.set_cons_zero, List.set_cons_succ]; rfl)) (hJ0_6_19_25_27 ⟨s0, s6, s19, s25, s27⟩ _ HQ.out)
  intro hJ0_6_25_27
  refine join_ (σ := Value × Value × Value) 6 joins1.m45 (fun s_ => [(14, s_.1), (20, s_.2.1), (39, s_.2.2)]) (fun s_ w' => JQ w1 w' (q4 s_.2.1 (.slice none 0 0) (.slice none 0 0) s_.2.2) (q4 a [] [] (List.replicate m1 0)) (.bool false) ∧ (True) ∧ (True)) ?_ ?_
  · rintro ⟨s0, s6, s25⟩ w' hF_
    have HQ := Aside0.mk (show JQ w1 w' (q4 s6 (.slice none 0 0) (.slice none 0 0) s25) (q4 a [] [] (List.replicate m1 0)) (.bool false) ∧ (True) ∧ (True) from hF_)
    clear hF_ hHeld
    refine norm_ (a' := ?_) ?_ ?_
    rotate_left
    · simp only [putAll, Act.put, List.setIfInBounds_toArray, List.set_cons_zero, List.set_cons_succ]
      rfl
    refine three_ (i := 7) (j := 19) (k := 27) (Ni := some 21) (Nj := some 33) (Nk := some 7) joins1.m37 joins1.m41 joins1.m44 rfl rfl rfl rfl rfl rfl (three_of HT_.out (by kernel_rfl)) (by decide) (by decide) (by decide) (fun K hK => ?_) (fun K hK => ?_) (fun K hK => ?_)
    · skip
      refine lit_ 1 (by decide) HQ.out.1 (by rfl) rfl (by rfl) ?_
      intro s7 wn ho
      have n0_ := Aside0.mk (And.intro (ho.congr (upd1 _ _ _ _ _) (upd1 _ _ _ _ _)) HQ.out.2)
      clear HQ ho
      have HQ := n0_
      clear n0_
      refine hK.out _ _ (HS.out _ HQ.out.1.bel) (fun hHeld => ?_)
      clear hK K
      refine norm_ (a' := ?_) ?_ ?_
      rotate_left
      · show Act.put _ (some 21) _ = _
        simp only [Act.put, List.setIfInBounds_toArray, List.set_cons_zero, List.set_cons_succ, i64_w, i32_w]
        rfl
      exact norm_ (by first | (simp only [putAll, Act.put, List.setIfInBounds_toArray, List.set_cons_zero, List.set_cons_succ]; done) | (simp only [putAll, Act.put, List.setIfInBounds_toArray, List.set_cons_zero, List.set_cons_succ]; rfl)) (hJ0_6_7_25 ⟨s0, s6, s7, s25⟩ _ HQ.out)
    · skip
      refine mk_ (m := m0) 2 (by decide) HQ.out.1 hm0k (by rfl) rfl rfl (by first | rfl | (go_simp; done)) ?_
      intro s19 wn ho
      have n0_ := Aside0.mk (And.intro (ho.congr (upd2 _ _ _ _ _) (upd2 _ _ _ _ _)) HQ.out.2)
      clear HQ ho
      have HQ := n0_
      clear n0_
      refine hK.out _ _ (HS.out _ HQ.out.1.bel) (fun hHeld => ?_)
      clear hK K
      refine norm_ (a' := ?_) ?_ ?_
      rotate_left
      · show Act.put _ (some 33) _ = _
        simp only [Act.put, List.setIfInBounds_toArray, List.set_cons_zero, List.set_cons_succ, i64_w, i32_w]
        rfl
      exact norm_ (by first | (simp only [putAll, Act.put, List.setIfInBounds_toArray, List.set_cons_zero, List.set_cons_succ]; done) | (simp only [putAll, Act.put, List.setIfInBounds_toArray, List.set_cons_zero, List.set_cons_succ]; rfl)) (hJ0_6_19_25 ⟨s0, s6, s19, s25⟩ _ HQ.out)
    · skip
      refine alloc_ HQ.out.1 (by rfl) rfl (by rfl) ?_
      intro s27 wn ho hp
      have n0_ := Aside0.mk (And.intro ho (And.intro HQ.out.2.1 hp))
      clear HQ ho hp
      have HQ := n0_
      clear n0_
      refine hK.out _ _ (HS.out _ HQ.out.1.bel) (fun hHeld => ?_)
      clear hK K
      refine norm_ (a' := ?_) ?_ ?_
      rotate_left
      · show Act.put _ (some 7) _ = _
        simp only [Act.put, List.setIfInBounds_toArray, List.set_cons_zero, List.set_cons_succ, i64_w, i32_w]
        rfl
      exact norm_ (by first | (simp only [putAll, Act.put, List.setIfInBounds_toArray, List.set_cons_zero, List.set_cons_succ]; done) | (simp only [putAll, Act.put, List.setIfInBounds_toArray, List.set_cons_zero, List.set_cons_succ]; rfl)) (hJ0_6_25_27 ⟨s0, s6, s25, s27⟩ _ HQ.out)
  intro hJ0_6_25
  refine join_ (σ := Value × Value × Value) 6 joins1.m46 (fun s_ => [(14, s_.1), (20, s_.2.1), (7, s_.2.2)]) (fun s_ w' => JQ w1 w' (q4 s_.2.1 (.slice none 0 0) (.slice none 0 0) (.slice none 0 0)) (q4 a [] [] []) s_.2.2 ∧ (True) ∧ (∃ b7, s_.2.2 = Value.pointer (some ⟨b7, 0, none⟩))) ?_ ?_
  · rintro ⟨s0, s6, s27⟩ w' hF_
    have HQ := Aside0.mk (show JQ w1 w' (q4 s6 (.slice none 0 0) (.slice none 0 0) (.slice none 0 0)) (q4 a [] [] []) s27 ∧ (True) ∧ (∃ b7, s27 = Value.pointer (some ⟨b7, 0, none⟩)) from hF_)
    clear hF_ hHeld
    refine norm_ (a' := ?_) ?_ ?_
    rotate_left
    · simp only [putAll, Act.put, List.setIfInBounds_toArray, List.set_cons_zero, List.set_cons_succ]
      rfl
    refine three_ (i := 7) (j := 19) (k := 25) (Ni := some 21) (Nj := some 33) (Nk := some 39) joins1.m38 joins1.m42 joins1.m44 rfl rfl rfl rfl rfl rfl (three_of HT_.out (by kernel_rfl)) (by decide) (by decide) (by decide) (fun K hK => ?_) (fun K hK => ?_) (fun K hK => ?_)
    · skip
      refine lit_ 1 (by decide) HQ.out.1 (by rfl) rfl (by rfl) ?_
      intro s7 wn ho
      have n0_ := Aside0.mk (And.intro (ho.congr (upd1 _ _ _ _ _) (upd1 _ _ _ _ _)) HQ.out.2)
      clear HQ ho
      have HQ := n0_
      clear n0_
      refine hK.out _ _ (HS.out _ HQ.out.1.bel) (fun hHeld => ?_)
      clear hK K
      refine norm_ (a' := ?_) ?_ ?_
      rotate_left
      · show Act.put _ (some 21) _ = _
        simp only [Act.put, List.setIfInBounds_toArray, List.set_cons_zero, List.set_cons_succ, i64_w, i32_w]
        rfl
      exact norm_ (by first | (simp only [putAll, Act.put, List.setIfInBounds_toArray, List.set_cons_zero, List.set_cons_succ]; done) | (simp only [putAll, Act.put, List.setIfInBounds_toArray, List.set_cons_zero, List.set_cons_succ]; rfl)) (hJ0_6_7_27 ⟨s0, s6, s7, s27⟩ _ HQ.out)
    · skip
      refine mk_ (m := m0) 2 (by decide) HQ.out.1 hm0k (by rfl) rfl rfl (by first | rfl | (go_simp; done)) ?_
      intro s19 wn ho
      have n0_ := Aside0.mk (And.intro (ho.congr (upd2 _ _ _ _ _) (upd2 _ _ _ _ _)) HQ.out.2)
      clear HQ ho
      have HQ := n0_
      clear n0_
      refine hK.out _ _ (HS.out _ HQ.out.1.bel) (fun hHeld => ?_)
      clear hK K
      refine norm_ (a' := ?_) ?_ ?_
      rotate_left
      · show Act.put _ (some 33) _ = _
        simp only [Act.put, List.setIfInBounds_toArray, List.set_cons_zero, List.set_cons_succ, i64_w, i32_w]
        rfl
      exact norm_ (by first | (simp only [putAll, Act.put, List.setIfInBounds_toArray, List.set_cons_zero, List.set_cons_succ]; done) | (simp only [putAll, Act.put, List.setIfInBounds_toArray, List.set_cons_zero, List.set_cons_succ]; rfl)) (hJ0_6_19_27 ⟨s0, s6, s19, s27⟩ _ HQ.out)
    · skip
      refine mk_ (m := m1) 3 (by decide) HQ.out.1 hm1k (by rfl) rfl rfl (by first | rfl | (go_simp; done)) ?_
      intro s25 wn ho
      have n0_ := Aside0.mk (And.intro (ho.congr (upd3 _ _ _ _ _) (upd3 _ _ _ _ _)) HQ.out.2)
      clear HQ ho
      have HQ := n0_
      clear n0_
      refine hK.out _ _ (HS.out _ HQ.out.1.bel) (fun hHeld => ?_)
      clear hK K
      refine norm_ (a' := ?_) ?_ ?_
      rotate_left
      · show Act.put _ (some 39) _ = _
        simp only [Act.put, List.setIfInBounds_toArray, List.set_cons_zero, List.set_cons_succ, i64_w, i32_w]
        rfl
      exact norm_ (by first | (simp only [putAll, Act.put, List.setIfInBounds_toArray, List.set_cons_zero, List.set_cons_succ]; done) | (simp only [putAll, Act.put, List.setIfInBounds_toArray, List.set_cons_zero, List.set_cons_succ]; rfl)) (hJ0_6_25_27 ⟨s0, s6, s25, s27⟩ _ HQ.out)
  intro hJ0_6_27
  refine join_ (σ := Value × Value) 7 joins1.m47 (fun s_ => [(14, s_.1), (20, s_.2)]) (fun s_ w' => JQ w1 w' (q4 s_.2 (.slice none 0 0) (.slice none 0 0) (.slice none 0 0)) (q4 a [] [] []) (.bool false) ∧ (True) ∧ (True)) ?_ ?_
  · rintro ⟨s0, s6⟩ w' hF_
    have HQ := Aside0.mk (show JQ w1 w' (q4 s6 (.slice none 0 0) (.slice none 0 0) (.slice none 0 0)) (q4 a [] [] []) (.bool false) ∧ (True) ∧ (True) from hF_)
    clear hF_ hHeld
    refine norm_ (a' := ?_) ?_ ?_
    rotate_left
    · simp only [putAll, Act.put, List.setIfInBounds_toArray, List.set_cons_zero, List.set_cons_succ]
      rfl
    refine four_ (i := 7) (j := 19) (k := 25) (m := 27) (Ni := some 21) (Nj := some 33) (Nk := some 39) (Nm := some 7) joins1.m39 joins1.m43 joins1.m45 joins1.m46 rfl rfl rfl rfl rfl rfl rfl rfl (four_of HT_.out (by kernel_rfl)) (by decide) (by decide) (by decide) (by decide) (fun K hK => ?_) (fun K hK => ?_) (fun K hK => ?_) (fun K hK => ?_)
    · skip
      refine lit_ 1 (by decide) HQ.out.1 (by rfl) rfl (by rfl) ?_
      intro s7 wn ho
      have n0_ := Aside0.mk (And.intro (ho.congr (upd1 _ _ _ _ _) (upd1 _ _ _ _ _)) HQ.out.2)
      clear HQ ho
      have HQ := n0_
      clear n0_
      refine hK.out _ _ (HS.out _ HQ.out.1.bel) (fun hHeld => ?_)
      clear hK K
      refine norm_ (a' := ?_) ?_ ?_
      rotate_left
      · show Act.put _ (some 21) _ = _
        simp only [Act.put, List.setIfInBounds_toArray, List.set_cons_zero, List.set_cons_succ, i64_w, i32_w]
        rfl
      exact norm_ (by first | (simp only [putAll, Act.put, List.setIfInBounds_toArray, List.set_cons_zero, List.set_cons_succ]; done) | (simp only [putAll, Act.put, List.setIfInBounds_toArray, List.set_cons_zero, List.set_cons_succ]; rfl)) (hJ0_6_7 ⟨s0, s6, s7⟩ _ HQ.out)
    · skip
      refine mk_ (m := m0) 2 (by decide) HQ.out.1 hm0k (by rfl) rfl rfl (by first | rfl | (go_simp; done)) ?_
      intro s19 wn ho
      have n0_ := Aside0.mk (And.intro (ho.congr (upd2 _ _ _ _ _) (upd2 _ _ _ _ _)) HQ.out.2)
      clear HQ ho
      have HQ := n0_
      clear n0_
      refine hK.out _ _ (HS.out _ HQ.out.1.bel) (fun hHeld => ?_)
      clear hK K
      refine norm_ (a' := ?_) ?_ ?_
      rotate_left
      · show Act.put _ (some 33) _ = _
        simp only [Act.put, List.setIfInBounds_toArray, List.set_cons_zero, List.set_cons_succ, i64_w, i32_w]
        rfl
      exact norm_ (by first | (simp only [putAll, Act.put, List.setIfInBounds_toArray, List.set_cons_zero, List.set_cons_succ]; done) | (simp only [putAll, Act.put, List.setIfInBounds_toArray, List.set_cons_zero, List.set_cons_succ]; rfl)) (hJ0_6_19 ⟨s0, s6, s19⟩ _ HQ.out)
    · skip
      refine mk_ (m := m1) 3 (by decide) HQ.out.1 hm1k (by rfl) rfl rfl (by first | rfl | (go_simp; done)) ?_
      intro s25 wn ho
      have n0_ := Aside0.mk (And.intro (ho.congr (upd3 _ _ _ _ _) (upd3 _ _ _ _ _)) HQ.out.2)
      clear HQ ho
      have HQ := n0_
      clear n0_
      refine hK.out _ _ (HS.out _ HQ.out.1.bel) (fun hHeld => ?_)
      clear hK K
      refine norm_ (a' := ?_) ?_ ?_
      rotate_left
      · show Act.put _ (some 39) _ = _
        simp only [Act.put, List.setIfInBounds_toArray, List.set_cons_zero, List.set_cons_succ, i64_w, i32_w]
        rfl
      exact norm_ (by first | (simp only [putAll, Act.put, List.setIfInBounds_toArray, List.set_cons_zero, List.set_cons_succ]; done) | (simp only [putAll, Act.put, List.setIfInBounds_toArray, List.set_cons_zero, List.set_cons_succ]; rfl)) (hJ0_6_25 ⟨s0, s6, s25⟩ _ HQ.out)
    · skip
      refine alloc_ HQ.out.1 (by rfl) rfl (by rfl) ?_
      intro s27 wn ho hp
      have n0_ := Aside0.mk (And.intro ho (And.intro HQ.out.2.1 hp))
      clear HQ ho hp
      have HQ := n0_
      clear n0_
      refine hK.out _ _ (HS.out _ HQ.out.1.bel) (fun hHeld => ?_)
      clear hK K
      refine norm_ (a' := ?_) ?_ ?_
      rotate_left
      · show Act.put _ (some 7) _ = _
        simp only [Act.put, List.setIfInBounds_toArray, List.set_cons_zero, List.set_cons_succ, i64_w, i32_w]
        rfl
      exact norm_ (by first | (simp only [putAll, Act.put, List.setIfInBounds_toArray, List.set_cons_zero, List.set_cons_succ]; done) | (simp only [putAll, Act.put, List.setIfInBounds_toArray, List.set_cons_zero, List.set_cons_succ]; rfl)) (hJ0_6_27 ⟨s0, s6, s27⟩ _ HQ.out)
  intro hJ0_6
  refine join_ (σ := Value × Value × Value × Value × Value) 4 joins1.m48 (fun s_ => [(14, s_.1), (21, s_.2.1), (33, s_.2.2.1), (39, s_.2.2.2.1), (7, s_.2.2.2.2)]) (fun s_ w' => JQ w1 w' (q4 s_.1 s_.2.1 s_.2.2.1 s_.2.2.2.1) (q4 [] [] (List.replicate m0 0) (List.replicate m1 0)) s_.2.2.2.2 ∧ (True) ∧ (∃ b7, s_.2.2.2.2 = Value.pointer (some ⟨b7, 0, none⟩))) ?_ ?_
  · rintro ⟨s0, s7, s19, s25, s27⟩ w' hF_
    have HQ := Aside0.mk (show JQ w1 w' (q4 s0 s7 s19 s25) (q4 [] [] (List.replicate m0 0) (List.replicate m1 0)) s27 ∧ (True) ∧ (∃ b7, s27 = Value.pointer (some ⟨b7, 0, none⟩)) from hF_)
    clear hF_ hHeld
    refine norm_ (a' := ?_) ?_ ?_
    rotate_left
    · simp only [putAll, Act.put, List.setIfInBounds_toArray, List.set_cons_zero, List.set_cons_succ]
      rfl
    refine one_ (i := 6) (N := some 20) joins1.m32 rfl rfl (one_of HT_.out (by kernel_rfl)) (by decide) (fun K hK => ?_)
    · skip
      refine app_ (k := c0) 0 (by decide) HQ.out.1 rfl (HA.out _ HQ.out.1.bel) hM0 (by rfl) rfl rfl (by first | rfl | (go_simp; done)) (by first | rfl | (go_simp; done)) ?_
      intro s6 wn ho
      have n0_ := Aside0.mk (And.intro (ho.congr (upd0 _ _ _ _ _) (upd0 _ _ _ _ _)) HQ.out.2)
      clear HQ ho
      have HQ := n0_
      clear n0_
      refine hK.out _ _ (HS.out _ HQ.out.1.bel) (fun hHeld => ?_)
      clear hK K
      refine norm_ (a' := ?_) ?_ ?_
      rotate_left
      · show Act.put _ (some 20) _ = _
        simp only [Act.put, List.setIfInBounds_toArray, List.set_cons_zero, List.set_cons_succ, i64_w, i32_w]
        rfl
      exact norm_ (by first | (simp only [putAll, Act.put, List.setIfInBounds_toArray, List.set_cons_zero, List.set_cons_succ]; done) | (simp only [putAll, Act.put, List.setIfInBounds_toArray, List.set_cons_zero, List.set_cons_succ]; rfl)) (hJ0_6_7_19_25_27 ⟨s0, s6, s7, s19, s25, s27⟩ _ HQ.out)
  intro hJ0_7_19_25_27
  refine join_ (σ := Value × Value × Value × Value) 5 joins1.m49 (fun s_ => [(14, s_.1), (21, s_.2.1), (33, s_.2.2.1), (39, s_.2.2.2)]) (fun s_ w' => JQ w1 w' (q4 s_.1 s_.2.1 s_.2.2.1 s_.2.2.2) (q4 [] [] (List.replicate m0 0) (List.replicate m1 0)) (.bool false) ∧ (True) ∧ (True)) ?_ ?_
  · rintro ⟨s0, s7, s19, s25⟩ w' hF_
    have HQ := Aside0.mk (show JQ w1 w' (q4 s0 s7 s19 s25) (q4 [] [] (List.replicate m0 0) (List.replicate m1 0)) (.bool false) ∧ (True) ∧ (True) from hF_)
    clear hF_ hHeld
    refine norm_ (a' := ?_) ?_ ?_
    rotate_left
    · simp only [putAll, Act.put, List.setIfInBounds_toArray, List.set_cons_zero, List.set_cons_succ]
      rfl
    refine two_ (i := 6) (j := 27) (Ni := some 20) (Nj := some 7) joins1.m33 joins1.m48 rfl rfl rfl rfl (two_of HT_.out (by kernel_rfl)) (by decide) (by decide) (fun K hK => ?_) (fun K hK => ?_)
    · skip
      refine app_ (k := c0) 0 (by decide) HQ.out.1 rfl (HA.out _ HQ.out.1.bel) hM0 (by rfl) rfl rfl (by first | rfl | (go_simp; done)) (by first | rfl | (go_simp; done)) ?_
      intro s6 wn ho
      have n0_ := Aside0.mk (And.intro (ho.congr (upd0 _ _ _ _ _) (upd0 _ _ _ _ _)) HQ.out.2)
      clear HQ ho
      have HQ := n0_
      clear n0_
      refine hK.out _ _ (HS.out _ HQ.out.1.bel) (fun hHeld => ?_)
      clear hK K
      refine norm_ (a' := ?_) ?_ ?_
      rotate_left
      · show Act.put _ (some 20) _ = _
        simp only [Act.put, List.setIfInBounds_toArray, List.set_cons_zero, List.set_cons_succ, i64_w, i32_w]
        rfl
      exact norm_ (by first | (simp only [putAll, Act.put, List.setIfInBounds_toArray, List.set_cons_zero, List.set_cons_succ]; done) | (simp only [putAll, Act.put, List.setIfInBounds_toArray, List.set_cons_zero, List.set_cons_succ]; rfl)) (hJ0_6_7_19_25 ⟨s0, s6, s7, s19, s25⟩ _ HQ.out)
    · skip
      refine alloc_ HQ.out.1 (by rfl) rfl (by rfl) ?_
      intro s27 wn ho hp
      have n0_ := Aside0.mk (And.intro ho (And.intro HQ.out.2.1 hp))
      clear HQ ho hp
      have HQ := n0_
      clear n0_
      refine hK.out _ _ (HS.out _ HQ.out.1.bel) (fun hHeld => ?_)
      clear hK K
      refine norm_ (a' := ?_) ?_ ?_
      rotate_left
      · show Act.put _ (some 7) _ = _
        simp only [Act.put, List.setIfInBounds_toArray, List.set_cons_zero, List.set_cons_succ, i64_w, i32_w]
        rfl
      exact norm_ (by first | (simp only [putAll, Act.put, List.setIfInBounds_toArray, List.set_cons_zero, List.set_cons_succ]; done) | (simp only [putAll, Act.put, List.setIfInBounds_toArray, List.set_cons_zero, List.set_cons_succ]; rfl)) (hJ0_7_19_25_27 ⟨s0, s7, s19, s25, s27⟩ _ HQ.out)
  intro hJ0_7_19_25
  refine join_ (σ := Value × Value × Value × Value) 5 joins1.m50 (fun s_ => [(14, s_.1), (21, s_.2.1), (33, s_.2.2.1), (7, s_.2.2.2)]) (fun s_ w' => JQ w1 w' (q4 s_.1 s_.2.1 s_.2.2.1 (.slice none 0 0)) (q4 [] [] (List.replicate m0 0) []) s_.2.2.2 ∧ (True) ∧ (∃ b7, s_.2.2.2 = Value.pointer (some ⟨b7, 0, none⟩))) ?_ ?_
  · rintro ⟨s0, s7, s19, s27⟩ w' hF_
    have HQ := Aside0.mk (show JQ w1 w' (q4 s0 s7 s19 (.slice none 0 0)) (q4 [] [] (List.replicate m0 0) []) s27 ∧ (True) ∧ (∃ b7, s27 = Value.pointer (some ⟨b7, 0, none⟩)) from hF_)
    clear hF_ hHeld
    refine norm_ (a' := ?_) ?_ ?_
    rotate_left
    · simp only [putAll, Act.put, List.setIfInBounds_toArray, List.set_cons_zero, List.set_cons_succ]
      rfl
    refine two_ (i := 6) (j := 25) (Ni := some 20) (Nj := some 39) joins1.m34 joins1.m48 rfl rfl rfl rfl (two_of HT_.out (by kernel_rfl)) (by decide) (by decide) (fun K hK => ?_) (fun K hK => ?_)
    · skip
      refine app_ (k := c0) 0 (by decide) HQ.out.1 rfl (HA.out _ HQ.out.1.bel) hM0 (by rfl) rfl rfl (by first | rfl | (go_simp; done)) (by first | rfl | (go_simp; done)) ?_
      intro s6 wn ho
      have n0_ := Aside0.mk (And.intro (ho.congr (upd0 _ _ _ _ _) (upd0 _ _ _ _ _)) HQ.out.2)
      clear HQ ho
      have HQ := n0_
      clear n0_
      refine hK.out _ _ (HS.out _ HQ.out.1.bel) (fun hHeld => ?_)
      clear hK K
      refine norm_ (a' := ?_) ?_ ?_
      rotate_left
      · show Act.put _ (some 20) _ = _
        simp only [Act.put, List.setIfInBounds_toArray, List.set_cons_zero, List.set_cons_succ, i64_w, i32_w]
        rfl
      exact norm_ (by first | (simp only [putAll, Act.put, List.setIfInBounds_toArray, List.set_cons_zero, List.set_cons_succ]; done) | (simp only [putAll, Act.put, List.setIfInBounds_toArray, List.set_cons_zero, List.set_cons_succ]; rfl)) (hJ0_6_7_19_27 ⟨s0, s6, s7, s19, s27⟩ _ HQ.out)
    · skip
      refine mk_ (m := m1) 3 (by decide) HQ.out.1 hm1k (by rfl) rfl rfl (by first | rfl | (go_simp; done)) ?_
      intro s25 wn ho
      have n0_ := Aside0.mk (And.intro (ho.congr (upd3 _ _ _ _ _) (upd3 _ _ _ _ _)) HQ.out.2)
      clear HQ ho
      have HQ := n0_
      clear n0_
      refine hK.out _ _ (HS.out _ HQ.out.1.bel) (fun hHeld => ?_)
      clear hK K
      refine norm_ (a' := ?_) ?_ ?_
      rotate_left
      · show Act.put _ (some 39) _ = _
        simp only [Act.put, List.setIfInBounds_toArray, List.set_cons_zero, List.set_cons_succ, i64_w, i32_w]
        rfl
      exact norm_ (by first | (simp only [putAll, Act.put, List.setIfInBounds_toArray, List.set_cons_zero, List.set_cons_succ]; done) | (simp only [putAll, Act.put, List.setIfInBounds_toArray, List.set_cons_zero, List.set_cons_succ]; rfl)) (hJ0_7_19_25_27 ⟨s0, s7, s19, s25, s27⟩ _ HQ.out)
  intro hJ0_7_19_27
  refine join_ (σ := Value × Value × Value) 6 joins1.m51 (fun s_ => [(14, s_.1), (21, s_.2.1), (33, s_.2.2)]) (fun s_ w' => JQ w1 w' (q4 s_.1 s_.2.1 s_.2.2 (.slice none 0 0)) (q4 [] [] (List.replicate m0 0) []) (.bool false) ∧ (True) ∧ (True)) ?_ ?_
  · rintro ⟨s0, s7, s19⟩ w' hF_
    have HQ := Aside0.mk (show JQ w1 w' (q4 s0 s7 s19 (.slice none 0 0)) (q4 [] [] (List.replicate m0 0) []) (.bool false) ∧ (True) ∧ (True) from hF_)
    clear hF_ hHeld
    refine norm_ (a' := ?_) ?_ ?_
    rotate_left
    · simp only [putAll, Act.put, List.setIfInBounds_toArray, List.set_cons_zero, List.set_cons_succ]
      rfl
    refine three_ (i := 6) (j := 25) (k := 27) (Ni := some 20) (Nj := some 39) (Nk := some 7) joins1.m35 joins1.m49 joins1.m50 rfl rfl rfl rfl rfl rfl (three_of HT_.out (by kernel_rfl)) (by decide) (by decide) (by decide) (fun K hK => ?_) (fun K hK => ?_) (fun K hK => ?_)
    · skip
      refine app_ (k := c0) 0 (by decide) HQ.out.1 rfl (HA.out _ HQ.out.1.bel) hM0 (by rfl) rfl rfl (by first | rfl | (go_simp; done)) (by first | rfl | (go_simp; done)) ?_
      intro s6 wn ho
      have n0_ := Aside0.mk (And.intro (ho.congr (upd0 _ _ _ _ _) (upd0 _ _ _ _ _)) HQ.out.2)
      clear HQ ho
      have HQ := n0_
      clear n0_
      refine hK.out _ _ (HS.out _ HQ.out.1.bel) (fun hHeld => ?_)
      clear hK K
      refine norm_ (a' := ?_) ?_ ?_
      rotate_left
      · show Act.put _ (some 20) _ = _
        simp only [Act.put, List.setIfInBounds_toArray, List.set_cons_zero, List.set_cons_succ, i64_w, i32_w]
        rfl
      exact norm_ (by first | (simp only [putAll, Act.put, List.setIfInBounds_toArray, List.set_cons_zero, List.set_cons_succ]; done) | (simp only [putAll, Act.put, List.setIfInBounds_toArray, List.set_cons_zero, List.set_cons_succ]; rfl)) (hJ0_6_7_19 ⟨s0, s6, s7, s19⟩ _ HQ.out)
    · skip
      refine mk_ (m := m1) 3 (by decide) HQ.out.1 hm1k (by rfl) rfl rfl (by first | rfl | (go_simp; done)) ?_
      intro s25 wn ho
      have n0_ := Aside0.mk (And.intro (ho.congr (upd3 _ _ _ _ _) (upd3 _ _ _ _ _)) HQ.out.2)
      clear HQ ho
      have HQ := n0_
      clear n0_
      refine hK.out _ _ (HS.out _ HQ.out.1.bel) (fun hHeld => ?_)
      clear hK K
      refine norm_ (a' := ?_) ?_ ?_
      rotate_left
      · show Act.put _ (some 39) _ = _
        simp only [Act.put, List.setIfInBounds_toArray, List.set_cons_zero, List.set_cons_succ, i64_w, i32_w]
        rfl
      exact norm_ (by first | (simp only [putAll, Act.put, List.setIfInBounds_toArray, List.set_cons_zero, List.set_cons_succ]; done) | (simp only [putAll, Act.put, List.setIfInBounds_toArray, List.set_cons_zero, List.set_cons_succ]; rfl)) (hJ0_7_19_25 ⟨s0, s7, s19, s25⟩ _ HQ.out)
    · skip
      refine alloc_ HQ.out.1 (by rfl) rfl (by rfl) ?_
      intro s27 wn ho hp
      have n0_ := Aside0.mk (And.intro ho (And.intro HQ.out.2.1 hp))
      clear HQ ho hp
      have HQ := n0_
      clear n0_
      refine hK.out _ _ (HS.out _ HQ.out.1.bel) (fun hHeld => ?_)
      clear hK K
      refine norm_ (a' := ?_) ?_ ?_
      rotate_left
      · show Act.put _ (some 7) _ = _
        simp only [Act.put, List.setIfInBounds_toArray, List.set_cons_zero, List.set_cons_succ, i64_w, i32_w]
        rfl
      exact norm_ (by first | (simp only [putAll, Act.put, List.setIfInBounds_toArray, List.set_cons_zero, List.set_cons_succ]; done) | (simp only [putAll, Act.put, List.setIfInBounds_toArray, List.set_cons_zero, List.set_cons_succ]; rfl)) (hJ0_7_19_27 ⟨s0, s7, s19, s27⟩ _ HQ.out)
  intro hJ0_7_19
  refine join_ (σ := Value × Value × Value × Value) 5 joins1.m52 (fun s_ => [(14, s_.1), (21, s_.2.1), (39, s_.2.2.1), (7, s_.2.2.2)]) (fun s_ w' => JQ w1 w' (q4 s_.1 s_.2.1 (.slice none 0 0) s_.2.2.1) (q4 [] [] [] (List.replicate m1 0)) s_.2.2.2 ∧ (True) ∧ (∃ b7, s_.2.2.2 = Value.pointer (some ⟨b7, 0, none⟩))) ?_ ?_
  · rintro ⟨s0, s7, s25, s27⟩ w' hF_
    have HQ := Aside0.mk (show JQ w1 w' (q4 s0 s7 (.slice none 0 0) s25) (q4 [] [] [] (List.replicate m1 0)) s27 ∧ (True) ∧ (∃ b7, s27 = Value.pointer (some ⟨b7, 0, none⟩)) from hF_)
    clear hF_ hHeld
    refine norm_ (a' := ?_) ?_ ?_
    rotate_left
    · simp only [putAll, Act.put, List.setIfInBounds_toArray, List.set_cons_zero, List.set_cons_succ]
      rfl
    refine two_ (i := 6) (j := 19) (Ni := some 20) (Nj := some 33) joins1.m36 joins1.m48 rfl rfl rfl rfl (two_of HT_.out (by kernel_rfl)) (by decide) (by decide) (fun K hK => ?_) (fun K hK => ?_)
    · skip
      refine app_ (k := c0) 0 (by decide) HQ.out.1 rfl (HA.out _ HQ.out.1.bel) hM0 (by rfl) rfl rfl (by first | rfl | (go_simp; done)) (by first | rfl | (go_simp; done)) ?_
      intro s6 wn ho
      have n0_ := Aside0.mk (And.intro (ho.congr (upd0 _ _ _ _ _) (upd0 _ _ _ _ _)) HQ.out.2)
      clear HQ ho
      have HQ := n0_
      clear n0_
      refine hK.out _ _ (HS.out _ HQ.out.1.bel) (fun hHeld => ?_)
      clear hK K
      refine norm_ (a' := ?_) ?_ ?_
      rotate_left
      · show Act.put _ (some 20) _ = _
        simp only [Act.put, List.setIfInBounds_toArray, List.set_cons_zero, List.set_cons_succ, i64_w, i32_w]
        rfl
      exact norm_ (by first | (simp only [putAll, Act.put, List.setIfInBounds_toArray, List.set_cons_zero, List.set_cons_succ]; done) | (simp only [putAll, Act.put, List.setIfInBounds_toArray, List.set_cons_zero, List.set_cons_succ]; rfl)) (hJ0_6_7_25_27 ⟨s0, s6, s7, s25, s27⟩ _ HQ.out)
    · skip
      refine mk_ (m := m0) 2 (by decide) HQ.out.1 hm0k (by rfl) rfl rfl (by first | rfl | (go_simp; done)) ?_
      intro s19 wn ho
      have n0_ := Aside0.mk (And.intro (ho.congr (upd2 _ _ _ _ _) (upd2 _ _ _ _ _)) HQ.out.2)
      clear HQ ho
      have HQ := n0_
      clear n0_
      refine hK.out _ _ (HS.out _ HQ.out.1.bel) (fun hHeld => ?_)
      clear hK K
      refine norm_ (a' := ?_) ?_ ?_
      rotate_left
      · show Act.put _ (some 33) _ = _
        simp only [Act.put, List.setIfInBounds_toArray, List.set_cons_zero, List.set_cons_succ, i64_w, i32_w]
        rfl
      exact norm_ (by first | (simp only [putAll, Act.put, List.setIfInBounds_toArray, List.set_cons_zero, List.set_cons_succ]; done) | (simp only [putAll, Act.put, List.setIfInBounds_toArray, List.set_cons_zero, List.set_cons_succ]; rfl)) (hJ0_7_19_25_27 ⟨s0, s7, s19, s25, s27⟩ _ HQ.out)
  intro hJ0_7_25_27
  refine join_ (σ := Value × Value × Value) 6 joins1.m53 (fun s_ => [(14, s_.1), (21, s_.2.1), (39, s_.2.2)]) (fun s_ w' => JQ w1 w' (q4 s_.1 s_.2.1 (.slice none 0 0) s_.2.2) (q4 [] [] [] (List.replicate m1 0)) (.bool false) ∧ (True) ∧ (True)) ?_ ?_
  · rintro ⟨s0, s7, s25⟩ w' hF_
    have HQ := Aside0.mk (show JQ w1 w' (q4 s0 s7 (.slice none 0 0) s25) (q4 [] [] [] (List.replicate m1 0)) (.bool false) ∧ (True) ∧ (True) from hF_)
    clear hF_ hHeld
    refine norm_ (a' := ?_) ?_ ?_
    rotate_left
    · simp only [putAll, Act.put, List.setIfInBounds_toArray, List.set_cons_zero, List.set_cons_succ]
      rfl
    refine three_ (i := 6) (j := 19) (k := 27) (Ni := some 20) (Nj := some 33) (Nk := some 7) joins1.m37 joins1.m49 joins1.m52 rfl rfl rfl rfl rfl rfl (three_of HT_.out (by kernel_rfl)) (by decide) (by decide) (by decide) (fun K hK => ?_) (fun K hK => ?_) (fun K hK => ?_)
    · skip
      refine app_ (k := c0) 0 (by decide) HQ.out.1 rfl (HA.out _ HQ.out.1.bel) hM0 (by rfl) rfl rfl (by first | rfl | (go_simp; done)) (by first | rfl | (go_simp; done)) ?_
      intro s6 wn ho
      have n0_ := Aside0.mk (And.intro (ho.congr (upd0 _ _ _ _ _) (upd0 _ _ _ _ _)) HQ.out.2)
      clear HQ ho
      have HQ := n0_
      clear n0_
      refine hK.out _ _ (HS.out _ HQ.out.1.bel) (fun hHeld => ?_)
      clear hK K
      refine norm_ (a' := ?_) ?_ ?_
      rotate_left
      · show Act.put _ (some 20) _ = _
        simp only [Act.put, List.setIfInBounds_toArray, List.set_cons_zero, List.set_cons_succ, i64_w, i32_w]
        rfl
      exact norm_ (by first | (simp only [putAll, Act.put, List.setIfInBounds_toArray, List.set_cons_zero, List.set_cons_succ]; done) | (simp only [putAll, Act.put, List.setIfInBounds_toArray, List.set_cons_zero, List.set_cons_succ]; rfl)) (hJ0_6_7_25 ⟨s0, s6, s7, s25⟩ _ HQ.out)
    · skip
      refine mk_ (m := m0) 2 (by decide) HQ.out.1 hm0k (by rfl) rfl rfl (by first | rfl | (go_simp; done)) ?_
      intro s19 wn ho
      have n0_ := Aside0.mk (And.intro (ho.congr (upd2 _ _ _ _ _) (upd2 _ _ _ _ _)) HQ.out.2)
      clear HQ ho
      have HQ := n0_
      clear n0_
      refine hK.out _ _ (HS.out _ HQ.out.1.bel) (fun hHeld => ?_)
      clear hK K
      refine norm_ (a' := ?_) ?_ ?_
      rotate_left
      · show Act.put _ (some 33) _ = _
        simp only [Act.put, List.setIfInBounds_toArray, List.set_cons_zero, List.set_cons_succ, i64_w, i32_w]
        rfl
      exact norm_ (by first | (simp only [putAll, Act.put, List.setIfInBounds_toArray, List.set_cons_zero, List.set_cons_succ]; done) | (simp only [putAll, Act.put, List.setIfInBounds_toArray, List.set_cons_zero, List.set_cons_succ]; rfl)) (hJ0_7_19_25 ⟨s0, s7, s19, s25⟩ _ HQ.out)
    · skip
      refine alloc_ HQ.out.1 (by rfl) rfl (by rfl) ?_
      intro s27 wn ho hp
      have n0_ := Aside0.mk (And.intro ho (And.intro HQ.out.2.1 hp))
      clear HQ ho hp
      have HQ := n0_
      clear n0_
      refine hK.out _ _ (HS.out _ HQ.out.1.bel) (fun hHeld => ?_)
      clear hK K
      refine norm_ (a' := ?_) ?_ ?_
      rotate_left
      · show Act.put _ (some 7) _ = _
        simp only [Act.put, List.setIfInBounds_toArray, List.set_cons_zero, List.set_cons_succ, i64_w, i32_w]
        rfl
      exact norm_ (by first | (simp only [putAll, Act.put, List.setIfInBounds_toArray, List.set_cons_zero, List.set_cons_succ]; done) | (simp only [putAll, Act.put, List.setIfInBounds_toArray, List.set_cons_zero, List.set_cons_succ]; rfl)) (hJ0_7_25_27 ⟨s0, s7, s25, s27⟩ _ HQ.out)
  intro hJ0_7_25
  refine join_ (σ := Value × Value × Value) 6 joins1.m54 (fun s_ => [(14, s_.1), (21, s_.2.1), (7, s_.2.2)]) (fun s_ w' => JQ w1 w' (q4 s_.1 s_.2.1 (.slice none 0 0) (.slice none 0 0)) (q4 [] [] [] []) s_.2.2 ∧ (True) ∧ (∃ b7, s_.2.2 = Value.pointer (some ⟨b7, 0, none⟩))) ?_ ?_
  · rintro ⟨s0, s7, s27⟩ w' hF_
    have HQ := Aside0.mk (show JQ w1 w' (q4 s0 s7 (.slice none 0 0) (.slice none 0 0)) (q4 [] [] [] []) s27 ∧ (True) ∧ (∃ b7, s27 = Value.pointer (some ⟨b7, 0, none⟩)) from hF_)
    clear hF_ hHeld
    refine norm_ (a' := ?_) ?_ ?_
    rotate_left
    · simp only [putAll, Act.put, List.setIfInBounds_toArray, List.set_cons_zero, List.set_cons_succ]
      rfl
    refine three_ (i := 6) (j := 19) (k := 25) (Ni := some 20) (Nj := some 33) (Nk := some 39) joins1.m38 joins1.m50 joins1.m52 rfl rfl rfl rfl rfl rfl (three_of HT_.out (by kernel_rfl)) (by decide) (by decide) (by decide) (fun K hK => ?_) (fun K hK => ?_) (fun K hK => ?_)
    · skip
      refine app_ (k := c0) 0 (by decide) HQ.out.1 rfl (HA.out _ HQ.out.1.bel) hM0 (by rfl) rfl rfl (by first | rfl | (go_simp; done)) (by first | rfl | (go_simp; done)) ?_
      intro s6 wn ho
      have n0_ := Aside0.mk (And.intro (ho.congr (upd0 _ _ _ _ _) (upd0 _ _ _ _ _)) HQ.out.2)
      clear HQ ho
      have HQ := n0_
      clear n0_
      refine hK.out _ _ (HS.out _ HQ.out.1.bel) (fun hHeld => ?_)
      clear hK K
      refine norm_ (a' := ?_) ?_ ?_
      rotate_left
      · show Act.put _ (some 20) _ = _
        simp only [Act.put, List.setIfInBounds_toArray, List.set_cons_zero, List.set_cons_succ, i64_w, i32_w]
        rfl
      exact norm_ (by first | (simp only [putAll, Act.put, List.setIfInBounds_toArray, List.set_cons_zero, List.set_cons_succ]; done) | (simp only [putAll, Act.put, List.setIfInBounds_toArray, List.set_cons_zero, List.set_cons_succ]; rfl)) (hJ0_6_7_27 ⟨s0, s6, s7, s27⟩ _ HQ.out)
    · skip
      refine mk_ (m := m0) 2 (by decide) HQ.out.1 hm0k (by rfl) rfl rfl (by first | rfl | (go_simp; done)) ?_
      intro s19 wn ho
      have n0_ := Aside0.mk (And.intro (ho.congr (upd2 _ _ _ _ _) (upd2 _ _ _ _ _)) HQ.out.2)
      clear HQ ho
      have HQ := n0_
      clear n0_
      refine hK.out _ _ (HS.out _ HQ.out.1.bel) (fun hHeld => ?_)
      clear hK K
      refine norm_ (a' := ?_) ?_ ?_
      rotate_left
      · show Act.put _ (some 33) _ = _
        simp only [Act.put, List.setIfInBounds_toArray, List.set_cons_zero, List.set_cons_succ, i64_w, i32_w]
        rfl
      exact norm_ (by first | (simp only [putAll, Act.put, List.setIfInBounds_toArray, List.set_cons_zero, List.set_cons_succ]; done) | (simp only [putAll, Act.put, List.setIfInBounds_toArray, List.set_cons_zero, List.set_cons_succ]; rfl)) (hJ0_7_19_27 ⟨s0, s7, s19, s27⟩ _ HQ.out)
    · skip
      refine mk_ (m := m1) 3 (by decide) HQ.out.1 hm1k (by rfl) rfl rfl (by first | rfl | (go_simp; done)) ?_
      intro s25 wn ho
      have n0_ := Aside0.mk (And.intro (ho.congr (upd3 _ _ _ _ _) (upd3 _ _ _ _ _)) HQ.out.2)
      clear HQ ho
      have HQ := n0_
      clear n0_
      refine hK.out _ _ (HS.out _ HQ.out.1.bel) (fun hHeld => ?_)
      clear hK K
      refine norm_ (a' := ?_) ?_ ?_
      rotate_left
      · show Act.put _ (some 39) _ = _
        simp only [Act.put, List.setIfInBounds_toArray, List.set_cons_zero, List.set_cons_succ, i64_w, i32_w]
        rfl
      exact norm_ (by first | (simp only [putAll, Act.put, List.setIfInBounds_toArray, List.set_cons_zero, List.set_cons_succ]; done) | (simp only [putAll, Act.put, List.setIfInBounds_toArray, List.set_cons_zero, List.set_cons_succ]; rfl)) (hJ0_7_25_27 ⟨s0, s7, s25, s27⟩ _ HQ.out)
  intro hJ0_7_27
  refine join_ (σ := Value × Value) 7 joins1.m55 (fun s_ => [(14, s_.1), (21, s_.2)]) (fun s_ w' => JQ w1 w' (q4 s_.1 s_.2 (.slice none 0 0) (.slice none 0 0)) (q4 [] [] [] []) (.bool false) ∧ (True) ∧ (True)) ?_ ?_
  · rintro ⟨s0, s7⟩ w' hF_
    have HQ := Aside0.mk (show JQ w1 w' (q4 s0 s7 (.slice none 0 0) (.slice none 0 0)) (q4 [] [] [] []) (.bool false) ∧ (True) ∧ (True) from hF_)
    clear hF_ hHeld
    refine norm_ (a' := ?_) ?_ ?_
    rotate_left
    · simp only [putAll, Act.put, List.setIfInBounds_toArray, List.set_cons_zero, List.set_cons_succ]
      rfl
    refine four_ (i := 6) (j := 19) (k := 25) (m := 27) (Ni := some 20) (Nj := some 33) (Nk := some 39) (Nm := some 7) joins1.m39 joins1.m51 joins1.m53 joins1.m54 rfl rfl rfl rfl rfl rfl rfl rfl (four_of HT_.out (by kernel_rfl)) (by decide) (by decide) (by decide) (by decide) (fun K hK => ?_) (fun K hK => ?_) (fun K hK => ?_) (fun K hK => ?_)
    · skip
      refine app_ (k := c0) 0 (by decide) HQ.out.1 rfl (HA.out _ HQ.out.1.bel) hM0 (by rfl) rfl rfl (by first | rfl | (go_simp; done)) (by first | rfl | (go_simp; done)) ?_
      intro s6 wn ho
      have n0_ := Aside0.mk (And.intro (ho.congr (upd0 _ _ _ _ _) (upd0 _ _ _ _ _)) HQ.out.2)
      clear HQ ho
      have HQ := n0_
      clear n0_
      refine hK.out _ _ (HS.out _ HQ.out.1.bel) (fun hHeld => ?_)
      clear hK K
      refine norm_ (a' := ?_) ?_ ?_
      rotate_left
      · show Act.put _ (some 20) _ = _
        simp only [Act.put, List.setIfInBounds_toArray, List.set_cons_zero, List.set_cons_succ, i64_w, i32_w]
        rfl
      exact norm_ (by first | (simp only [putAll, Act.put, List.setIfInBounds_toArray, List.set_cons_zero, List.set_cons_succ]; done) | (simp only [putAll, Act.put, List.setIfInBounds_toArray, List.set_cons_zero, List.set_cons_succ]; rfl)) (hJ0_6_7 ⟨s0, s6, s7⟩ _ HQ.out)
    · skip
      refine mk_ (m := m0) 2 (by decide) HQ.out.1 hm0k (by rfl) rfl rfl (by first | rfl | (go_simp; done)) ?_
      intro s19 wn ho
      have n0_ := Aside0.mk (And.intro (ho.congr (upd2 _ _ _ _ _) (upd2 _ _ _ _ _)) HQ.out.2)
      clear HQ ho
      have HQ := n0_
      clear n0_
      refine hK.out _ _ (HS.out _ HQ.out.1.bel) (fun hHeld => ?_)
      clear hK K
      refine norm_ (a' := ?_) ?_ ?_
      rotate_left
      · show Act.put _ (some 33) _ = _
        simp only [Act.put, List.setIfInBounds_toArray, List.set_cons_zero, List.set_cons_succ, i64_w, i32_w]
        rfl
      exact norm_ (by first | (simp only [putAll, Act.put, List.setIfInBounds_toArray, List.set_cons_zero, List.set_cons_succ]; done) | (simp only [putAll, Act.put, List.setIfInBounds_toArray, List.set_cons_zero, List.set_cons_succ]; rfl)) (hJ0_7_19 ⟨s0, s7, s19⟩ _ HQ.out)
    · skip
      refine mk_ (m := m1) 3 (by decide) HQ.out.1 hm1k (by rfl) rfl rfl (by first | rfl | (go_simp; done)) ?_
      intro s25 wn ho
      have n0_ := Aside0.mk (And.intro (ho.congr (upd3 _ _ _ _ _) (upd3 _ _ _ _ _)) HQ.out.2)
      clear HQ ho
      have HQ := n0_
      clear n0_
      refine hK.out _ _ (HS.out _ HQ.out.1.bel) (fun hHeld => ?_)
      clear hK K
      refine norm_ (a' := ?_) ?_ ?_
      rotate_left
      · show Act.put _ (some 39) _ = _
        simp only [Act.put, List.setIfInBounds_toArray, List.set_cons_zero, List.set_cons_succ, i64_w, i32_w]
        rfl
      exact norm_ (by first | (simp only [putAll, Act.put, List.setIfInBounds_toArray, List.set_cons_zero, List.set_cons_succ]; done) | (simp only [putAll, Act.put, List.setIfInBounds_toArray, List.set_cons_zero, List.set_cons_succ]; rfl)) (hJ0_7_25 ⟨s0, s7, s25⟩ _ HQ.out)
    · skip
      refine alloc_ HQ.out.1 (by rfl) rfl (by rfl) ?_
      intro s27 wn ho hp
      have n0_ := Aside0.mk (And.intro ho (And.intro HQ.out.2.1 hp))
      clear HQ ho hp
      have HQ := n0_
      clear n0_
      refine hK.out _ _ (HS.out _ HQ.out.1.bel) (fun hHeld => ?_)
      clear hK K
      refine norm_ (a' := ?_) ?_ ?_
      rotate_left
      · show Act.put _ (some 7) _ = _
        simp only [Act.put, List.setIfInBounds_toArray, List.set_cons_zero, List.set_cons_succ, i64_w, i32_w]
        rfl
      exact norm_ (by first | (simp only [putAll, Act.put, List.setIfInBounds_toArray, List.set_cons_zero, List.set_cons_succ]; done) | (simp only [putAll, Act.put, List.setIfInBounds_toArray, List.set_cons_zero, List.set_cons_succ]; rfl)) (hJ0_7_27 ⟨s0, s7, s27⟩ _ HQ.out)
  intro hJ0_7
  refine join_ (σ := Value × Value × Value × Value) 5 joins1.m56 (fun s_ => [(14, s_.1), (33, s_.2.1), (39, s_.2.2.1), (7, s_.2.2.2)]) (fun s_ w' => JQ w1 w' (q4 s_.1 (.slice none 0 0) s_.2.1 s_.2.2.1) (q4 [] [] (List.replicate m0 0) (List.replicate m1 0)) s_.2.2.2 ∧ (True) ∧ (∃ b7, s_.2.2.2 = Value.pointer (some ⟨b7, 0, none⟩))) ?_ ?_
  · rintro ⟨s0, s19, s25, s27⟩ w' hF_
    have HQ := Aside0.mk (show JQ w1 w' (q4 s0 (.slice none 0 0) s19 s25) (q4 [] [] (List.replicate m0 0) (List.replicate m1 0)) s27 ∧ (True) ∧ (∃ b7, s27 = Value.pointer (some ⟨b7, 0, none⟩)) from hF_)
    clear hF_ hHeld
    refine norm_ (a' := ?_) ?_ ?_
    rotate_left
    · simp only [putAll, Act.put, List.setIfInBounds_toArray, List.set_cons_zero, List.set_cons_succ]
      rfl
    refine two_ (i := 6) (j := 7) (Ni := some 20) (Nj := some 21) joins1.m40 joins1.m48 rfl rfl rfl rfl (two_of HT_.out (by kernel_rfl)) (by decide) (by decide) (fun K hK => ?_) (fun K hK => ?_)
    · skip
      refine app_ (k := c0) 0 (by decide) HQ.out.1 rfl (HA.out _ HQ.out.1.bel) hM0 (by rfl) rfl rfl (by first | rfl | (go_simp; done)) (by first | rfl | (go_simp; done)) ?_
      intro s6 wn ho
      have n0_ := Aside0.mk (And.intro (ho.congr (upd0 _ _ _ _ _) (upd0 _ _ _ _ _)) HQ.out.2)
      clear HQ ho
      have HQ := n0_
      clear n0_
      refine hK.out _ _ (HS.out _ HQ.out.1.bel) (fun hHeld => ?_)
      clear hK K
      refine norm_ (a' := ?_) ?_ ?_
      rotate_left
      · show Act.put _ (some 20) _ = _
        simp only [Act.put, List.setIfInBounds_toArray, List.set_cons_zero, List.set_cons_succ, i64_w, i32_w]
        rfl
      exact norm_ (by first | (simp only [putAll, Act.put, List.setIfInBounds_toArray, List.set_cons_zero, List.set_cons_succ]; done) | (simp only [putAll, Act.put, List.setIfInBounds_toArray, List.set_cons_zero, List.set_cons_succ]; rfl)) (hJ0_6_19_25_27 ⟨s0, s6, s19, s25, s27⟩ _ HQ.out)
    · skip
      refine lit_ 1 (by decide) HQ.out.1 (by rfl) rfl (by rfl) ?_
      intro s7 wn ho
      have n0_ := Aside0.mk (And.intro (ho.congr (upd1 _ _ _ _ _) (upd1 _ _ _ _ _)) HQ.out.2)
      clear HQ ho
      have HQ := n0_
      clear n0_
      refine hK.out _ _ (HS.out _ HQ.out.1.bel) (fun hHeld => ?_)
      clear hK K
      refine norm_ (a' := ?_) ?_ ?_
      rotate_left
      · show Act.put _ (some 21) _ = _
        simp only [Act.put, List.setIfInBounds_toArray, List.set_cons_zero, List.set_cons_succ, i64_w, i32_w]
        rfl
      exact norm_ (by first | (simp only [putAll, Act.put, List.setIfInBounds_toArray, List.set_cons_zero, List.set_cons_succ]; done) | (simp only [putAll, Act.put, List.setIfInBounds_toArray, List.set_cons_zero, List.set_cons_succ]; rfl)) (hJ0_7_19_25_27 ⟨s0, s7, s19, s25, s27⟩ _ HQ.out)
  intro hJ0_19_25_27
  refine join_ (σ := Value × Value × Value) 6 joins1.m57 (fun s_ => [(14, s_.1), (33, s_.2.1), (39, s_.2.2)]) (fun s_ w' => JQ w1 w' (q4 s_.1 (.slice none 0 0) s_.2.1 s_.2.2) (q4 [] [] (List.replicate m0 0) (List.replicate m1 0)) (.bool false) ∧ (True) ∧ (True)) ?_ ?_
  · rintro ⟨s0, s19, s25⟩ w' hF_
    have HQ := Aside0.mk (show JQ w1 w' (q4 s0 (.slice none 0 0) s19 s25) (q4 [] [] (List.replicate m0 0) (List.replicate m1 0)) (.bool false) ∧ (True) ∧ (True) from hF_)
    clear hF_ hHeld
    refine norm_ (a' := ?_) ?_ ?_
    rotate_left
    · simp only [putAll, Act.put, List.setIfInBounds_toArray, List.set_cons_zero, List.set_cons_succ]
      rfl
    refine three_ (i := 6) (j := 7) (k := 27) (Ni := some 20) (Nj := some 21) (Nk := some 7) joins1.m41 joins1.m49 joins1.m56 rfl rfl rfl rfl rfl rfl (three_of HT_.out (by kernel_rfl)) (by decide) (by decide) (by decide) (fun K hK => ?_) (fun K hK => ?_) (fun K hK => ?_)
    · skip
      refine app_ (k := c0) 0 (by decide) HQ.out.1 rfl (HA.out _ HQ.out.1.bel) hM0 (by rfl) rfl rfl (by first | rfl | (go_simp; done)) (by first | rfl | (go_simp; done)) ?_
      intro s6 wn ho
      have n0_ := Aside0.mk (And.intro (ho.congr (upd0 _ _ _ _ _) (upd0 _ _ _ _ _)) HQ.out.2)
      clear HQ ho
      have HQ := n0_
      clear n0_
      refine hK.out _ _ (HS.out _ HQ.out.1.bel) (fun hHeld => ?_)
      clear hK K
      refine norm_ (a' := ?_) ?_ ?_
      rotate_left
      · show Act.put _ (some 20) _ = _
        simp only [Act.put, List.setIfInBounds_toArray, List.set_cons_zero, List.set_cons_succ, i64_w, i32_w]
        rfl
      exact norm_ (by first | (simp only [putAll, Act.put, List.setIfInBounds_toArray, List.set_cons_zero, List.set_cons_succ]; done) | (simp only [putAll, Act.put, List.setIfInBounds_toArray, List.set_cons_zero, List.set_cons_succ]; rfl)) (hJ0_6_19_25 ⟨s0, s6, s19, s25⟩ _ HQ.out)
    · skip
      refine lit_ 1 (by decide) HQ.out.1 (by rfl) rfl (by rfl) ?_
      intro s7 wn ho
      have n0_ := Aside0.mk (And.intro (ho.congr (upd1 _ _ _ _ _) (upd1 _ _ _ _ _)) HQ.out.2)
      clear HQ ho
      have HQ := n0_
      clear n0_
      refine hK.out _ _ (HS.out _ HQ.out.1.bel) (fun hHeld => ?_)
      clear hK K
      refine norm_ (a' := ?_) ?_ ?_
      rotate_left
      · show Act.put _ (some 21) _ = _
        simp only [Act.put, List.setIfInBounds_toArray, List.set_cons_zero, List.set_cons_succ, i64_w, i32_w]
        rfl
      exact norm_ (by first | (simp only [putAll, Act.put, List.setIfInBounds_toArray, List.set_cons_zero, List.set_cons_succ]; done) | (simp only [putAll, Act.put, List.setIfInBounds_toArray, List.set_cons_zero, List.set_cons_succ]; rfl)) (hJ0_7_19_25 ⟨s0, s7, s19, s25⟩ _ HQ.out)
    · skip
      refine alloc_ HQ.out.1 (by rfl) rfl (by rfl) ?_
      intro s27 wn ho hp
      have n0_ := Aside0.mk (And.intro ho (And.intro HQ.out.2.1 hp))
      clear HQ ho hp
      have HQ := n0_
      clear n0_
      refine hK.out _ _ (HS.out _ HQ.out.1.bel) (fun hHeld => ?_)
      clear hK K
      refine norm_ (a' := ?_) ?_ ?_
      rotate_left
      · show Act.put _ (some 7) _ = _
        simp only [Act.put, List.setIfInBounds_toArray, List.set_cons_zero, List.set_cons_succ, i64_w, i32_w]
        rfl
      exact norm_ (by first | (simp only [putAll, Act.put, List.setIfInBounds_toArray, List.set_cons_zero, List.set_cons_succ]; done) | (simp only [putAll, Act.put, List.setIfInBounds_toArray, List.set_cons_zero, List.set_cons_succ]; rfl)) (hJ0_19_25_27 ⟨s0, s19, s25, s27⟩ _ HQ.out)
  intro hJ0_19_25
  refine join_ (σ := Value × Value × Value) 6 joins1.m58 (fun s_ => [(14, s_.1), (33, s_.2.1), (7, s_.2.2)]) (fun s_ w' => JQ w1 w' (q4 s_.1 (.slice none 0 0) s_.2.1 (.slice none 0 0)) (q4 [] [] (List.replicate m0 0) []) s_.2.2 ∧ (True) ∧ (∃ b7, s_.2.2 = Value.pointer (some ⟨b7, 0, none⟩))) ?_ ?_
  · rintro ⟨s0, s19, s27⟩ w' hF_
    have HQ := Aside0.mk (show JQ w1 w' (q4 s0 (.slice none 0 0) s19 (.slice none 0 0)) (q4 [] [] (List.replicate m0 0) []) s27 ∧ (True) ∧ (∃ b7, s27 = Value.pointer (some ⟨b7, 0, none⟩)) from hF_)
    clear hF_ hHeld
    refine norm_ (a' := ?_) ?_ ?_
    rotate_left
    · simp only [putAll, Act.put, List.setIfInBounds_toArray, List.set_cons_zero, List.set_cons_succ]
      rfl
    refine three_ (i := 6) (j := 7) (k := 25) (Ni := some 20) (Nj := some 21) (Nk := some 39) joins1.m42 joins1.m50 joins1.m56 rfl rfl rfl rfl rfl rfl (three_of HT_.out (by kernel_rfl)) (by decide) (by decide) (by decide) (fun K hK => ?_) (fun K hK => ?_) (fun K hK => ?_)
    · skip
      refine app_ (k := c0) 0 (by decide) HQ.out.1 rfl (HA.out _ HQ.out.1.bel) hM0 (by rfl) rfl rfl (by first | rfl | (go_simp; done)) (by first | rfl | (go_simp; done)) ?_
      intro s6 wn ho
      have n0_ := Aside0.mk (And.intro (ho.congr (upd0 _ _ _ _ _) (upd0 _ _ _ _ _)) HQ.out.2)
      clear HQ ho
      have HQ := n0_
      clear n0_
      refine hK.out _ _ (HS.out _ HQ.out.1.bel) (fun hHeld => ?_)
      clear hK K
      refine norm_ (a' := ?_) ?_ ?_
      rotate_left
      · show Act.put _ (some 20) _ = _
        simp only [Act.put, List.setIfInBounds_toArray, List.set_cons_zero, List.set_cons_succ, i64_w, i32_w]
        rfl
      exact norm_ (by first | (simp only [putAll, Act.put, List.setIfInBounds_toArray, List.set_cons_zero, List.set_cons_succ]; done) | (simp only [putAll, Act.put, List.setIfInBounds_toArray, List.set_cons_zero, List.set_cons_succ]; rfl)) (hJ0_6_19_27 ⟨s0, s6, s19, s27⟩ _ HQ.out)
    · skip
      refine lit_ 1 (by decide) HQ.out.1 (by rfl) rfl (by rfl) ?_
      intro s7 wn ho
      have n0_ := Aside0.mk (And.intro (ho.congr (upd1 _ _ _ _ _) (upd1 _ _ _ _ _)) HQ.out.2)
      clear HQ ho
      have HQ := n0_
      clear n0_
      refine hK.out _ _ (HS.out _ HQ.out.1.bel) (fun hHeld => ?_)
      clear hK K
      refine norm_ (a' := ?_) ?_ ?_
      rotate_left
      · show Act.put _ (some 21) _ = _
        simp only [Act.put, List.setIfInBounds_toArray, List.set_cons_zero, List.set_cons_succ, i64_w, i32_w]
        rfl
      exact norm_ (by first | (simp only [putAll, Act.put, List.setIfInBounds_toArray, List.set_cons_zero, List.set_cons_succ]; done) | (simp only [putAll, Act.put, List.setIfInBounds_toArray, List.set_cons_zero, List.set_cons_succ]; rfl)) (hJ0_7_19_27 ⟨s0, s7, s19, s27⟩ _ HQ.out)
    · skip
      refine mk_ (m := m1) 3 (by decide) HQ.out.1 hm1k (by rfl) rfl rfl (by first | rfl | (go_simp; done)) ?_
      intro s25 wn ho
      have n0_ := Aside0.mk (And.intro (ho.congr (upd3 _ _ _ _ _) (upd3 _ _ _ _ _)) HQ.out.2)
      clear HQ ho
      have HQ := n0_
      clear n0_
      refine hK.out _ _ (HS.out _ HQ.out.1.bel) (fun hHeld => ?_)
      clear hK K
      refine norm_ (a' := ?_) ?_ ?_
      rotate_left
      · show Act.put _ (some 39) _ = _
        simp only [Act.put, List.setIfInBounds_toArray, List.set_cons_zero, List.set_cons_succ, i64_w, i32_w]
        rfl
      exact norm_ (by first | (simp only [putAll, Act.put, List.setIfInBounds_toArray, List.set_cons_zero, List.set_cons_succ]; done) | (simp only [putAll, Act.put, List.setIfInBounds_toArray, List.set_cons_zero, List.set_cons_succ]; rfl)) (hJ0_19_25_27 ⟨s0, s19, s25, s27⟩ _ HQ.out)
  intro hJ0_19_27
  refine join_ (σ := Value × Value) 7 joins1.m59 (fun s_ => [(14, s_.1), (33, s_.2)]) (fun s_ w' => JQ w1 w' (q4 s_.1 (.slice none 0 0) s_.2 (.slice none 0 0)) (q4 [] [] (List.replicate m0 0) []) (.bool false) ∧ (True) ∧ (True)) ?_ ?_
  · rintro ⟨s0, s19⟩ w' hF_
    have HQ := Aside0.mk (show JQ w1 w' (q4 s0 (.slice none 0 0) s19 (.slice none 0 0)) (q4 [] [] (List.replicate m0 0) []) (.bool false) ∧ (True) ∧ (True) from hF_)
    clear hF_ hHeld
    refine norm_ (a' := ?_) ?_ ?_
    rotate_left
    · simp only [putAll, Act.put, List.setIfInBounds_toArray, List.set_cons_zero, List.set_cons_succ]
      rfl
    refine four_ (i := 6) (j := 7) (k := 25) (m := 27) (Ni := some 20) (Nj := some 21) (Nk := some 39) (Nm := some 7) joins1.m43 joins1.m51 joins1.m57 joins1.m58 rfl rfl rfl rfl rfl rfl rfl rfl (four_of HT_.out (by kernel_rfl)) (by decide) (by decide) (by decide) (by decide) (fun K hK => ?_) (fun K hK => ?_) (fun K hK => ?_) (fun K hK => ?_)
    · skip
      refine app_ (k := c0) 0 (by decide) HQ.out.1 rfl (HA.out _ HQ.out.1.bel) hM0 (by rfl) rfl rfl (by first | rfl | (go_simp; done)) (by first | rfl | (go_simp; done)) ?_
      intro s6 wn ho
      have n0_ := Aside0.mk (And.intro (ho.congr (upd0 _ _ _ _ _) (upd0 _ _ _ _ _)) HQ.out.2)
      clear HQ ho
      have HQ := n0_
      clear n0_
      refine hK.out _ _ (HS.out _ HQ.out.1.bel) (fun hHeld => ?_)
      clear hK K
      refine norm_ (a' := ?_) ?_ ?_
      rotate_left
      · show Act.put _ (some 20) _ = _
        simp only [Act.put, List.setIfInBounds_toArray, List.set_cons_zero, List.set_cons_succ, i64_w, i32_w]
        rfl
      exact norm_ (by first | (simp only [putAll, Act.put, List.setIfInBounds_toArray, List.set_cons_zero, List.set_cons_succ]; done) | (simp only [putAll, Act.put, List.setIfInBounds_toArray, List.set_cons_zero, List.set_cons_succ]; rfl)) (hJ0_6_19 ⟨s0, s6, s19⟩ _ HQ.out)
    · skip
      refine lit_ 1 (by decide) HQ.out.1 (by rfl) rfl (by rfl) ?_
      intro s7 wn ho
      have n0_ := Aside0.mk (And.intro (ho.congr (upd1 _ _ _ _ _) (upd1 _ _ _ _ _)) HQ.out.2)
      clear HQ ho
      have HQ := n0_
      clear n0_
      refine hK.out _ _ (HS.out _ HQ.out.1.bel) (fun hHeld => ?_)
      clear hK K
      refine norm_ (a' := ?_) ?_ ?_
      rotate_left
      · show Act.put _ (some 21) _ = _
        simp only [Act.put, List.setIfInBounds_toArray, List.set_cons_zero, List.set_cons_succ, i64_w, i32_w]
        rfl
      exact norm_ (by first | (simp only [putAll, Act.put, List.setIfInBounds_toArray, List.set_cons_zero, List.set_cons_succ]; done) | (simp only [putAll, Act.put, List.setIfInBounds_toArray, List.set_cons_zero, List.set_cons_succ]; rfl)) (hJ0_7_19 ⟨s0, s7, s19⟩ _ HQ.out)
    · skip
      refine mk_ (m := m1) 3 (by decide) HQ.out.1 hm1k (by rfl) rfl rfl (by first | rfl | (go_simp; done)) ?_
      intro s25 wn ho
      have n0_ := Aside0.mk (And.intro (ho.congr (upd3 _ _ _ _ _) (upd3 _ _ _ _ _)) HQ.out.2)
      clear HQ ho
      have HQ := n0_
      clear n0_
      refine hK.out _ _ (HS.out _ HQ.out.1.bel) (fun hHeld => ?_)
      clear hK K
      refine norm_ (a' := ?_) ?_ ?_
      rotate_left
      · show Act.put _ (some 39) _ = _
        simp only [Act.put, List.setIfInBounds_toArray, List.set_cons_zero, List.set_cons_succ, i64_w, i32_w]
        rfl
      exact norm_ (by first | (simp only [putAll, Act.put, List.setIfInBounds_toArray, List.set_cons_zero, List.set_cons_succ]; done) | (simp only [putAll, Act.put, List.setIfInBounds_toArray, List.set_cons_zero, List.set_cons_succ]; rfl)) (hJ0_19_25 ⟨s0, s19, s25⟩ _ HQ.out)
    · skip
      refine alloc_ HQ.out.1 (by rfl) rfl (by rfl) ?_
      intro s27 wn ho hp
      have n0_ := Aside0.mk (And.intro ho (And.intro HQ.out.2.1 hp))
      clear HQ ho hp
      have HQ := n0_
      clear n0_
      refine hK.out _ _ (HS.out _ HQ.out.1.bel) (fun hHeld => ?_)
      clear hK K
      refine norm_ (a' := ?_) ?_ ?_
      rotate_left
      · show Act.put _ (some 7) _ = _
        simp only [Act.put, List.setIfInBounds_toArray, List.set_cons_zero, List.set_cons_succ, i64_w, i32_w]
        rfl
      exact norm_ (by first | (simp only [putAll, Act.put, List.setIfInBounds_toArray, List.set_cons_zero, List.set_cons_succ]; done) | (simp only [putAll, Act.put, List.setIfInBounds_toArray, List.set_cons_zero, List.set_cons_succ]; rfl)) (hJ0_19_27 ⟨s0, s19, s27⟩ _ HQ.out)
  intro hJ0_19
  refine join_ (σ := Value × Value × Value) 6 joins1.m60 (fun s_ => [(14, s_.1), (39, s_.2.1), (7, s_.2.2)]) (fun s_ w' => JQ w1 w' (q4 s_.1 (.slice none 0 0) (.slice none 0 0) s_.2.1) (q4 [] [] [] (List.replicate m1 0)) s_.2.2 ∧ (True) ∧ (∃ b7, s_.2.2 = Value.pointer (some ⟨b7, 0, none⟩))) ?_ ?_
  · rintro ⟨s0, s25, s27⟩ w' hF_
    have HQ := Aside0.mk (show JQ w1 w' (q4 s0 (.slice none 0 0) (.slice none 0 0) s25) (q4 [] [] [] (List.replicate m1 0)) s27 ∧ (True) ∧ (∃ b7, s27 = Value.pointer (some ⟨b7, 0, none⟩)) from hF_)
    clear hF_ hHeld
    refine norm_ (a' := ?_) ?_ ?_
    rotate_left
    · simp only [putAll, Act.put, List.setIfInBounds_toArray, List.set_cons_zero, List.set_cons_succ]
      rfl
    refine three_ (i := 6) (j := 7) (k := 19) (Ni := some 20) (Nj := some 21) (Nk := some 33) joins1.m44 joins1.m52 joins1.m56 rfl rfl rfl rfl rfl rfl (three_of HT_.out (by kernel_rfl)) (by decide) (by decide) (by decide) (fun K hK => ?_) (fun K hK => ?_) (fun K hK => ?_)
    · skip
      refine app_ (k := c0) 0 (by decide) HQ.out.1 rfl (HA.out _ HQ.out.1.bel) hM0 (by rfl) rfl rfl (by first | rfl | (go_simp; done)) (by first | rfl | (go_simp; done)) ?_
      intro s6 wn ho
      have n0_ := Aside0.mk (And.intro (ho.congr (upd0 _ _ _ _ _) (upd0 _ _ _ _ _)) HQ.out.2)
      clear HQ ho
      have HQ := n0_
      clear n0_
      refine hK.out _ _ (HS.out _ HQ.out.1.bel) (fun hHeld => ?_)
      clear hK K
      refine norm_ (a' := ?_) ?_ ?_
      rotate_left
      · show Act.put _ (some 20) _ = _
        simp only [Act.put, List.setIfInBounds_toArray, List.set_cons_zero, List.set_cons_succ, i64_w, i32_w]
        rfl
      exact norm_ (by first | (simp only [putAll, Act.put, List.setIfInBounds_toArray, List.set_cons_zero, List.set_cons_succ]; done) | (simp only [putAll, Act.put, List.setIfInBounds_toArray, List.set_cons_zero, List.set_cons_succ]; rfl)) (hJ0_6_25_27 ⟨s0, s6, s25, s27⟩ _ HQ.out)
    · skip
      refine lit_ 1 (by decide) HQ.out.1 (by rfl) rfl (by rfl) ?_
      intro s7 wn ho
      have n0_ := Aside0.mk (And.intro (ho.congr (upd1 _ _ _ _ _) (upd1 _ _ _ _ _)) HQ.out.2)
      clear HQ ho
      have HQ := n0_
      clear n0_
      refine hK.out _ _ (HS.out _ HQ.out.1.bel) (fun hHeld => ?_)
      clear hK K
      refine norm_ (a' := ?_) ?_ ?_
      rotate_left
      · show Act.put _ (some 21) _ = _
        simp only [Act.put, List.setIfInBounds_toArray, List.set_cons_zero, List.set_cons_succ, i64_w, i32_w]
        rfl
      exact norm_ (by first | (simp only [putAll, Act.put, List.setIfInBounds_toArray, List.set_cons_zero, List.set_cons_succ]; done) | (simp only [putAll, Act.put, List.setIfInBounds_toArray, List.set_cons_zero, List.set_cons_succ]; rfl)) (hJ0_7_25_27 ⟨s0, s7, s25, s27⟩ _ HQ.out)
    · skip
      refine mk_ (m := m0) 2 (by decide) HQ.out.1 hm0k (by rfl) rfl rfl (by first | rfl | (go_simp; done)) ?_
      intro s19 wn ho
      have n0_ := Aside0.mk (And.intro (ho.congr (upd2 _ _ _ _ _) (upd2 _ _ _ _ _)) HQ.out.2)
      clear HQ ho
      have HQ := n0_
      clear n0_
      refine hK.out _ _ (HS.out _ HQ.out.1.bel) (fun hHeld => ?_)
      clear hK K
      refine norm_ (a' := ?_) ?_ ?_
      rotate_left
      · show Act.put _ (some 33) _ = _
        simp only [Act.put, List.setIfInBounds_toArray, List.set_cons_zero, List.set_cons_succ, i64_w, i32_w]
        rfl
      exact norm_ (by first | (simp only [putAll, Act.put, List.setIfInBounds_toArray, List.set_cons_zero, List.set_cons_succ]; done) | (simp only [putAll, Act.put, List.setIfInBounds_toArray, List.set_cons_zero, List.set_cons_succ]; rfl)) (hJ0_19_25_27 ⟨s0, s19, s25, s27⟩ _ HQ.out)
  intro hJ0_25_27
  refine join_ (σ := Value × Value) 7 joins1.m61 (fun s_ => [(14, s_.1), (39, s_.2)]) (fun s_ w' => JQ w1 w' (q4 s_.1 (.slice none 0 0) (.slice none 0 0) s_.2) (q4 [] [] [] (List.replicate m1 0)) (.bool false) ∧ (True) ∧ (True)) ?_ ?_
  · rintro ⟨s0, s25⟩ w' hF_
    have HQ := Aside0.mk (show JQ w1 w' (q4 s0 (.slice none 0 0) (.slice none 0 0) s25) (q4 [] [] [] (List.replicate m1 0)) (.bool false) ∧ (True) ∧ (True) from hF_)
    clear hF_ hHeld
    refine norm_ (a' := ?_) ?_ ?_
    rotate_left
    · simp only [putAll, Act.put, List.setIfInBounds_toArray, List.set_cons_zero, List.set_cons_succ]
      rfl
    refine four_ (i := 6) (j := 7) (k := 19) (m := 27) (Ni := some 20) (Nj := some 21) (Nk := some 33) (Nm := some 7) joins1.m45 joins1.m53 joins1.m57 joins1.m60 rfl rfl rfl rfl rfl rfl rfl rfl (four_of HT_.out (by kernel_rfl)) (by decide) (by decide) (by decide) (by decide) (fun K hK => ?_) (fun K hK => ?_) (fun K hK => ?_) (fun K hK => ?_)
    · skip
      refine app_ (k := c0) 0 (by decide) HQ.out.1 rfl (HA.out _ HQ.out.1.bel) hM0 (by rfl) rfl rfl (by first | rfl | (go_simp; done)) (by first | rfl | (go_simp; done)) ?_
      intro s6 wn ho
      have n0_ := Aside0.mk (And.intro (ho.congr (upd0 _ _ _ _ _) (upd0 _ _ _ _ _)) HQ.out.2)
      clear HQ ho
      have HQ := n0_
      clear n0_
      refine hK.out _ _ (HS.out _ HQ.out.1.bel) (fun hHeld => ?_)
      clear hK K
      refine norm_ (a' := ?_) ?_ ?_
      rotate_left
      · show Act.put _ (some 20) _ = _
        simp only [Act.put, List.setIfInBounds_toArray, List.set_cons_zero, List.set_cons_succ, i64_w, i32_w]
        rfl
      exact norm_ (by first | (simp only [putAll, Act.put, List.setIfInBounds_toArray, List.set_cons_zero, List.set_cons_succ]; done) | (simp only [putAll, Act.put, List.setIfInBounds_toArray, List.set_cons_zero, List.set_cons_succ]; rfl)) (hJ0_6_25 ⟨s0, s6, s25⟩ _ HQ.out)
    · skip
      refine lit_ 1 (by decide) HQ.out.1 (by rfl) rfl (by rfl) ?_
      intro s7 wn ho
      have n0_ := Aside0.mk (And.intro (ho.congr (upd1 _ _ _ _ _) (upd1 _ _ _ _ _)) HQ.out.2)
      clear HQ ho
      have HQ := n0_
      clear n0_
      refine hK.out _ _ (HS.out _ HQ.out.1.bel) (fun hHeld => ?_)
      clear hK K
      refine norm_ (a' := ?_) ?_ ?_
      rotate_left
      · show Act.put _ (some 21) _ = _
        simp only [Act.put, List.setIfInBounds_toArray, List.set_cons_zero, List.set_cons_succ, i64_w, i32_w]
        rfl
      exact norm_ (by first | (simp only [putAll, Act.put, List.setIfInBounds_toArray, List.set_cons_zero, List.set_cons_succ]; done) | (simp only [putAll, Act.put, List.setIfInBounds_toArray, List.set_cons_zero, List.set_cons_succ]; rfl)) (hJ0_7_25 ⟨s0, s7, s25⟩ _ HQ.out)
    · skip
      refine mk_ (m := m0) 2 (by decide) HQ.out.1 hm0k (by rfl) rfl rfl (by first | rfl | (go_simp; done)) ?_
      intro s19 wn ho
      have n0_ := Aside0.mk (And.intro (ho.congr (upd2 _ _ _ _ _) (upd2 _ _ _ _ _)) HQ.out.2)
      clear HQ ho
      have HQ := n0_
      clear n0_
      refine hK.out _ _ (HS.out _ HQ.out.1.bel) (fun hHeld => ?_)
      clear hK K
      refine norm_ (a' := ?_) ?_ ?_
      rotate_left
      · show Act.put _ (some 33) _ = _
        simp only [Act.put, List.setIfInBounds_toArray, List.set_cons_zero, List.set_cons_succ, i64_w, i32_w]
        rfl
      exact norm_ (by first | (simp only [putAll, Act.put, List.setIfInBounds_toArray, List.set_cons_zero, List.set_cons_succ]; done) | (simp only [putAll, Act.put, List.setIfInBounds_toArray, List.set_cons_zero, List.set_cons_succ]; rfl)) (hJ0_19_25 ⟨s0, s19, s25⟩ _ HQ.out)
    · skip
      refine alloc_ HQ.out.1 (by rfl) rfl (by rfl) ?_
      intro s27 wn ho hp
      have n0_ := Aside0.mk (And.intro ho (And.intro HQ.out.2.1 hp))
      clear HQ ho hp
      have HQ := n0_
      clear n0_
      refine hK.out _ _ (HS.out _ HQ.out.1.bel) (fun hHeld => ?_)
      clear hK K
      refine norm_ (a' := ?_) ?_ ?_
      rotate_left
      · show Act.put _ (some 7) _ = _
        simp only [Act.put, List.setIfInBounds_toArray, List.set_cons_zero, List.set_cons_succ, i64_w, i32_w]
        rfl
      exact norm_ (by first | (simp only [putAll, Act.put, List.setIfInBounds_toArray, List.set_cons_zero, List.set_cons_succ]; done) | (simp only [putAll, Act.put, List.setIfInBounds_toArray, List.set_cons_zero, List.set_cons_succ]; rfl)) (hJ0_25_27 ⟨s0, s25, s27⟩ _ HQ.out)
  intro hJ0_25
  refine join_ (σ := Value × Value) 7 joins1.m62 (fun s_ => [(14, s_.1), (7, s_.2)]) (fun s_ w' => JQ w1 w' (q4 s_.1 (.slice none 0 0) (.slice none 0 0) (.slice none 0 0)) (q4 [] [] [] []) s_.2 ∧ (True) ∧ (∃ b7, s_.2 = Value.pointer (some ⟨b7, 0, none⟩))) ?_ ?_
  · rintro ⟨s0, s27⟩ w' hF_
    have HQ := Aside0.mk (show JQ w1 w' (q4 s0 (.slice none 0 0) (.slice none 0 0) (.slice none 0 0)) (q4 [] [] [] []) s27 ∧ (True) ∧ (∃ b7, s27 = Value.pointer (some ⟨b7, 0, none⟩)) from hF_)
    clear hF_ hHeld
    refine norm_ (a' := ?_) ?_ ?_
    rotate_left
    · simp only [putAll, Act.put, List.setIfInBounds_toArray, List.set_cons_zero, List.set_cons_succ]
      rfl
    refine four_ (i := 6) (j := 7) (k := 19) (m := 25) (Ni := some 20) (Nj := some 21) (Nk := some 33) (Nm := some 39) joins1.m46 joins1.m54 joins1.m58 joins1.m60 rfl rfl rfl rfl rfl rfl rfl rfl (four_of HT_.out (by kernel_rfl)) (by decide) (by decide) (by decide) (by decide) (fun K hK => ?_) (fun K hK => ?_) (fun K hK => ?_) (fun K hK => ?_)
    · skip
      refine app_ (k := c0) 0 (by decide) HQ.out.1 rfl (HA.out _ HQ.out.1.bel) hM0 (by rfl) rfl rfl (by first | rfl | (go_simp; done)) (by first | rfl | (go_simp; done)) ?_
      intro s6 wn ho
      have n0_ := Aside0.mk (And.intro (ho.congr (upd0 _ _ _ _ _) (upd0 _ _ _ _ _)) HQ.out.2)
      clear HQ ho
      have HQ := n0_
      clear n0_
      refine hK.out _ _ (HS.out _ HQ.out.1.bel) (fun hHeld => ?_)
      clear hK K
      refine norm_ (a' := ?_) ?_ ?_
      rotate_left
      · show Act.put _ (some 20) _ = _
        simp only [Act.put, List.setIfInBounds_toArray, List.set_cons_zero, List.set_cons_succ, i64_w, i32_w]
        rfl
      exact norm_ (by first | (simp only [putAll, Act.put, List.setIfInBounds_toArray, List.set_cons_zero, List.set_cons_succ]; done) | (simp only [putAll, Act.put, List.setIfInBounds_toArray, List.set_cons_zero, List.set_cons_succ]; rfl)) (hJ0_6_27 ⟨s0, s6, s27⟩ _ HQ.out)
    · skip
      refine lit_ 1 (by decide) HQ.out.1 (by rfl) rfl (by rfl) ?_
      intro s7 wn ho
      have n0_ := Aside0.mk (And.intro (ho.congr (upd1 _ _ _ _ _) (upd1 _ _ _ _ _)) HQ.out.2)
      clear HQ ho
      have HQ := n0_
      clear n0_
      refine hK.out _ _ (HS.out _ HQ.out.1.bel) (fun hHeld => ?_)
      clear hK K
      refine norm_ (a' := ?_) ?_ ?_
      rotate_left
      · show Act.put _ (some 21) _ = _
        simp only [Act.put, List.setIfInBounds_toArray, List.set_cons_zero, List.set_cons_succ, i64_w, i32_w]
        rfl
      exact norm_ (by first | (simp only [putAll, Act.put, List.setIfInBounds_toArray, List.set_cons_zero, List.set_cons_succ]; done) | (simp only [putAll, Act.put, List.setIfInBounds_toArray, List.set_cons_zero, List.set_cons_succ]; rfl)) (hJ0_7_27 ⟨s0, s7, s27⟩ _ HQ.out)
    · skip
      refine mk_ (m := m0) 2 (by decide) HQ.out.1 hm0k (by rfl) rfl rfl (by first | rfl | (go_simp; done)) ?_
      intro s19 wn ho
      have n0_ := Aside0.mk (And.intro (ho.congr (upd2 _ _ _ _ _) (upd2 _ _ _ _ _)) HQ.out.2)
      clear HQ ho
      have HQ := n0_
      clear n0_
      refine hK.out _ _ (HS.out _ HQ.out.1.bel) (fun hHeld => ?_)
      clear hK K
      refine norm_ (a' := ?_) ?_ ?_
      rotate_left
      · show Act.put _ (some 33) _ = _
        simp only [Act.put, List.setIfInBounds_toArray, List.set_cons_zero, List.set_cons_succ, i64_w, i32_w]
        rfl
      exact norm_ (by first | (simp only [putAll, Act.put, List.setIfInBounds_toArray, List.set_cons_zero, List.set_cons_succ]; done) | (simp only [putAll, Act.put, List.setIfInBounds_toArray, List.set_cons_zero, List.set_cons_succ]; rfl)) (hJ0_19_27 ⟨s0, s19, s27⟩ _ HQ.out)
    · skip
      refine mk_ (m := m1) 3 (by decide) HQ.out.1 hm1k (by rfl) rfl rfl (by first | rfl | (go_simp; done)) ?_
      intro s25 wn ho
      have n0_ := Aside0.mk (And.intro (ho.congr (upd3 _ _ _ _ _) (upd3 _ _ _ _ _)) HQ.out.2)
      clear HQ ho
      have HQ := n0_
      clear n0_
      refine hK.out _ _ (HS.out _ HQ.out.1.bel) (fun hHeld => ?_)
      clear hK K
      refine norm_ (a' := ?_) ?_ ?_
      rotate_left
      · show Act.put _ (some 39) _ = _
        simp only [Act.put, List.setIfInBounds_toArray, List.set_cons_zero, List.set_cons_succ, i64_w, i32_w]
        rfl
      exact norm_ (by first | (simp only [putAll, Act.put, List.setIfInBounds_toArray, List.set_cons_zero, List.set_cons_succ]; done) | (simp only [putAll, Act.put, List.setIfInBounds_toArray, List.set_cons_zero, List.set_cons_succ]; rfl)) (hJ0_25_27 ⟨s0, s25, s27⟩ _ HQ.out)
  intro hJ0_27
  refine join_ (σ := Value) 8 joins1.m63 (fun s_ => [(14, s_)]) (fun s_ w' => JQ w1 w' (q4 s_ (.slice none 0 0) (.slice none 0 0) (.slice none 0 0)) (q4 [] [] [] []) (.bool false) ∧ (True) ∧ (True)) ?_ ?_
  · rintro s0 w' hF_
    have HQ := Aside0.mk (show JQ w1 w' (q4 s0 (.slice none 0 0) (.slice none 0 0) (.slice none 0 0)) (q4 [] [] [] []) (.bool false) ∧ (True) ∧ (True) from hF_)
    clear hF_ hHeld
    refine norm_ (a' := ?_) ?_ ?_
    rotate_left
    · simp only [putAll, Act.put, List.setIfInBounds_toArray, List.set_cons_zero, List.set_cons_succ]
      rfl
    refine five_ (i := 6) (j := 7) (k := 19) (m := 25) (n := 27) (Ni := some 20) (Nj := some 21) (Nk := some 33) (Nm := some 39) (Nn := some 7) joins1.m47 joins1.m55 joins1.m59 joins1.m61 joins1.m62 rfl rfl rfl rfl rfl rfl rfl rfl rfl rfl (five_of HT_.out (by kernel_rfl)) (by decide) (by decide) (by decide) (by decide) (by decide) (fun K hK => ?_) (fun K hK => ?_) (fun K hK => ?_) (fun K hK => ?_) (fun K hK => ?_)
    · skip
      refine app_ (k := c0) 0 (by decide) HQ.out.1 rfl (HA.out _ HQ.out.1.bel) hM0 (by rfl) rfl rfl (by first | rfl | (go_simp; done)) (by first | rfl | (go_simp; done)) ?_
      intro s6 wn ho
      have n0_ := Aside0.mk (And.intro (ho.congr (upd0 _ _ _ _ _) (upd0 _ _ _ _ _)) HQ.out.2)
      clear HQ ho
      have HQ := n0_
      clear n0_
      refine hK.out _ _ (HS.out _ HQ.out.1.bel) (fun hHeld => ?_)
      clear hK K
      refine norm_ (a' := ?_) ?_ ?_
      rotate_left
      · show Act.put _ (some 20) _ = _
        simp only [Act.put, List.setIfInBounds_toArray, List.set_cons_zero, List.set_cons_succ, i64_w, i32_w]
        rfl
      exact norm_ (by first | (simp only [putAll, Act.put, List.setIfInBounds_toArray, List.set_cons_zero, List.set_cons_succ]; done) | (simp only [putAll, Act.put, List.setIfInBounds_toArray, List.set_cons_zero, List.set_cons_succ]; rfl)) (hJ0_6 ⟨s0, s6⟩ _ HQ.out)
    · skip
      refine lit_ 1 (by decide) HQ.out.1 (by rfl) rfl (by rfl) ?_
      intro s7 wn ho
      have n0_ := Aside0.mk (And.intro (ho.congr (upd1 _ _ _ _ _) (upd1 _ _ _ _ _)) HQ.out.2)
      clear HQ ho
      have HQ := n0_
      clear n0_
      refine hK.out _ _ (HS.out _ HQ.out.1.bel) (fun hHeld => ?_)
      clear hK K
      refine norm_ (a' := ?_) ?_ ?_
      rotate_left
      · show Act.put _ (some 21) _ = _
        simp only [Act.put, List.setIfInBounds_toArray, List.set_cons_zero, List.set_cons_succ, i64_w, i32_w]
        rfl
      exact norm_ (by first | (simp only [putAll, Act.put, List.setIfInBounds_toArray, List.set_cons_zero, List.set_cons_succ]; done) | (simp only [putAll, Act.put, List.setIfInBounds_toArray, List.set_cons_zero, List.set_cons_succ]; rfl)) (hJ0_7 ⟨s0, s7⟩ _ HQ.out)
    · skip
      refine mk_ (m := m0) 2 (by decide) HQ.out.1 hm0k (by rfl) rfl rfl (by first | rfl | (go_simp; done)) ?_
      intro s19 wn ho
      have n0_ := Aside0.mk (And.intro (ho.congr (upd2 _ _ _ _ _) (upd2 _ _ _ _ _)) HQ.out.2)
      clear HQ ho
      have HQ := n0_
      clear n0_
      refine hK.out _ _ (HS.out _ HQ.out.1.bel) (fun hHeld => ?_)
      clear hK K
      refine norm_ (a' := ?_) ?_ ?_
      rotate_left
      · show Act.put _ (some 33) _ = _
        simp only [Act.put, List.setIfInBounds_toArray, List.set_cons_zero, List.set_cons_succ, i64_w, i32_w]
        rfl
      exact norm_ (by first | (simp only [putAll, Act.put, List.setIfInBounds_toArray, List.set_cons_zero, List.set_cons_succ]; done) | (simp only [putAll, Act.put, List.setIfInBounds_toArray, List.set_cons_zero, List.set_cons_succ]; rfl)) (hJ0_19 ⟨s0, s19⟩ _ HQ.out)
    · skip
      refine mk_ (m := m1) 3 (by decide) HQ.out.1 hm1k (by rfl) rfl rfl (by first | rfl | (go_simp; done)) ?_
      intro s25 wn ho
      have n0_ := Aside0.mk (And.intro (ho.congr (upd3 _ _ _ _ _) (upd3 _ _ _ _ _)) HQ.out.2)
      clear HQ ho
      have HQ := n0_
      clear n0_
      refine hK.out _ _ (HS.out _ HQ.out.1.bel) (fun hHeld => ?_)
      clear hK K
      refine norm_ (a' := ?_) ?_ ?_
      rotate_left
      · show Act.put _ (some 39) _ = _
        simp only [Act.put, List.setIfInBounds_toArray, List.set_cons_zero, List.set_cons_succ, i64_w, i32_w]
        rfl
      exact norm_ (by first | (simp only [putAll, Act.put, List.setIfInBounds_toArray, List.set_cons_zero, List.set_cons_succ]; done) | (simp only [putAll, Act.put, List.setIfInBounds_toArray, List.set_cons_zero, List.set_cons_succ]; rfl)) (hJ0_25 ⟨s0, s25⟩ _ HQ.out)
    · skip
      refine alloc_ HQ.out.1 (by rfl) rfl (by rfl) ?_
      intro s27 wn ho hp
      have n0_ := Aside0.mk (And.intro ho (And.intro HQ.out.2.1 hp))
      clear HQ ho hp
      have HQ := n0_
      clear n0_
      refine hK.out _ _ (HS.out _ HQ.out.1.bel) (fun hHeld => ?_)
      clear hK K
      refine norm_ (a' := ?_) ?_ ?_
      rotate_left
      · show Act.put _ (some 7) _ = _
        simp only [Act.put, List.setIfInBounds_toArray, List.set_cons_zero, List.set_cons_succ, i64_w, i32_w]
        rfl
      exact norm_ (by first | (simp only [putAll, Act.put, List.setIfInBounds_toArray, List.set_cons_zero, List.set_cons_succ]; done) | (simp only [putAll, Act.put, List.setIfInBounds_toArray, List.set_cons_zero, List.set_cons_succ]; rfl)) (hJ0_27 ⟨s0, s27⟩ _ HQ.out)
  intro hJ0
  refine join_ (σ := Value × Value × Value × Value) 5 joins1.m64 (fun s_ => [(21, s_.1), (33, s_.2.1), (39, s_.2.2.1), (7, s_.2.2.2)]) (fun s_ w' => JQ w1 w' (q4 (.slice none 0 0) s_.1 s_.2.1 s_.2.2.1) (q4 [] [] (List.replicate m0 0) (List.replicate m1 0)) s_.2.2.2 ∧ (True) ∧ (∃ b7, s_.2.2.2 = Value.pointer (some ⟨b7, 0, none⟩))) ?_ ?_
  · rintro ⟨s7, s19, s25, s27⟩ w' hF_
    have HQ := Aside0.mk (show JQ w1 w' (q4 (.slice none 0 0) s7 s19 s25) (q4 [] [] (List.replicate m0 0) (List.replicate m1 0)) s27 ∧ (True) ∧ (∃ b7, s27 = Value.pointer (some ⟨b7, 0, none⟩)) from hF_)
    clear hF_ hHeld
    refine norm_ (a' := ?_) ?_ ?_
    rotate_left
    · simp only [putAll, Act.put, List.setIfInBounds_toArray, List.set_cons_zero, List.set_cons_succ]
      rfl
    refine one_ (i := 0) (N := some 14) joins1.m48 rfl rfl (one_of HT_.out (by kernel_rfl)) (by decide) (fun K hK => ?_)
    · skip
      refine lit_ 0 (by decide) HQ.out.1 (by rfl) rfl (by rfl) ?_
      intro s0 wn ho
      have n0_ := Aside0.mk (And.intro (ho.congr (upd0 _ _ _ _ _) (upd0 _ _ _ _ _)) HQ.out.2)
      clear HQ ho
      have HQ := n0_
      clear n0_
      refine hK.out _ _ (HS.out _ HQ.out.1.bel) (fun hHeld => ?_)
      clear hK K
      refine norm_ (a' := ?_) ?_ ?_
      rotate_left
      · show Act.put _ (some 14) _ = _
        simp only [Act.put, List.setIfInBounds_toArray, List.set_cons_zero, List.set_cons_succ, i64_w, i32_w]
        rfl
      exact norm_ (by first | (simp only [putAll, Act.put, List.setIfInBounds_toArray, List.set_cons_zero, List.set_cons_succ]; done) | (simp only [putAll, Act.put, List.setIfInBounds_toArray, List.set_cons_zero, List.set_cons_succ]; rfl)) (hJ0_7_19_25_27 ⟨s0, s7, s19, s25, s27⟩ _ HQ.out)
  intro hJ7_19_25_27
  refine join_ (σ := Value × Value × Value) 6 joins1.m65 (fun s_ => [(21, s_.1), (33, s_.2.1), (39, s_.2.2)]) (fun s_ w' => JQ w1 w' (q4 (.slice none 0 0) s_.1 s_.2.1 s_.2.2) (q4 [] [] (List.replicate m0 0) (List.replicate m1 0)) (.bool false) ∧ (True) ∧ (True)) ?_ ?_
  · rintro ⟨s7, s19, s25⟩ w' hF_
    have HQ := Aside0.mk (show JQ w1 w' (q4 (.slice none 0 0) s7 s19 s25) (q4 [] [] (List.replicate m0 0) (List.replicate m1 0)) (.bool false) ∧ (True) ∧ (True) from hF_)
    clear hF_ hHeld
    refine norm_ (a' := ?_) ?_ ?_
    rotate_left
    · simp only [putAll, Act.put, List.setIfInBounds_toArray, List.set_cons_zero, List.set_cons_succ]
      rfl
    refine two_ (i := 0) (j := 27) (Ni := some 14) (Nj := some 7) joins1.m49 joins1.m64 rfl rfl rfl rfl (two_of HT_.out (by kernel_rfl)) (by decide) (by decide) (fun K hK => ?_) (fun K hK => ?_)
    · skip
      refine lit_ 0 (by decide) HQ.out.1 (by rfl) rfl (by rfl) ?_
      intro s0 wn ho
      have n0_ := Aside0.mk (And.intro (ho.congr (upd0 _ _ _ _ _) (upd0 _ _ _ _ _)) HQ.out.2)
      clear HQ ho
      have HQ := n0_
      clear n0_
      refine hK.out _ _ (HS.out _ HQ.out.1.bel) (fun hHeld => ?_)
      clear hK K
      refine norm_ (a' := ?_) ?_ ?_
      rotate_left
      · show Act.put _ (some 14) _ = _
        simp only [Act.put, List.setIfInBounds_toArray, List.set_cons_zero, List.set_cons_succ, i64_w, i32_w]
        rfl
      exact norm_ (by first | (simp only [putAll, Act.put, List.setIfInBounds_toArray, List.set_cons_zero, List.set_cons_succ]; done) | (simp only [putAll, Act.put, List.setIfInBounds_toArray, List.set_cons_zero, List.set_cons_succ]; rfl)) (hJ0_7_19_25 ⟨s0, s7, s19, s25⟩ _ HQ.out)
    · skip
      refine alloc_ HQ.out.1 (by rfl) rfl (by rfl) ?_
      intro s27 wn ho hp
      have n0_ := Aside0.mk (And.intro ho (And.intro HQ.out.2.1 hp))
      clear HQ ho hp
      have HQ := n0_
      clear n0_
      refine hK.out _ _ (HS.out _ HQ.out.1.bel) (fun hHeld => ?_)
      clear hK K
      refine norm_ (a' := ?_) ?_ ?_
      rotate_left
      · show Act.put _ (some 7) _ = _
        simp only [Act.put, List.setIfInBounds_toArray, List.set_cons_zero, List.set_cons_succ, i64_w, i32_w]
        rfl
      exact norm_ (by first | (simp only [putAll, Act.put, List.setIfInBounds_toArray, List.set_cons_zero, List.set_cons_succ]; done) | (simp only [putAll, Act.put, List.setIfInBounds_toArray, List.set_cons_zero, List.set_cons_succ]; rfl)) (hJ7_19_25_27 ⟨s7, s19, s25, s27⟩ _ HQ.out)
  intro hJ7_19_25
  refine join_ (σ := Value × Value × Value) 6 joins1.m66 (fun s_ => [(21, s_.1), (33, s_.2.1), (7, s_.2.2)]) (fun s_ w' => JQ w1 w' (q4 (.slice none 0 0) s_.1 s_.2.1 (.slice none 0 0)) (q4 [] [] (List.replicate m0 0) []) s_.2.2 ∧ (True) ∧ (∃ b7, s_.2.2 = Value.pointer (some ⟨b7, 0, none⟩))) ?_ ?_
  · rintro ⟨s7, s19, s27⟩ w' hF_
    have HQ := Aside0.mk (show JQ w1 w' (q4 (.slice none 0 0) s7 s19 (.slice none 0 0)) (q4 [] [] (List.replicate m0 0) []) s27 ∧ (True) ∧ (∃ b7, s27 = Value.pointer (some ⟨b7, 0, none⟩)) from hF_)
    clear hF_ hHeld
    refine norm_ (a' := ?_) ?_ ?_
    rotate_left
    · simp only [putAll, Act.put, List.setIfInBounds_toArray, List.set_cons_zero, List.set_cons_succ]
      rfl
    refine two_ (i := 0) (j := 25) (Ni := some 14) (Nj := some 39) joins1.m50 joins1.m64 rfl rfl rfl rfl (two_of HT_.out (by kernel_rfl)) (by decide) (by decide) (fun K hK => ?_) (fun K hK => ?_)
    · skip
      refine lit_ 0 (by decide) HQ.out.1 (by rfl) rfl (by rfl) ?_
      intro s0 wn ho
      have n0_ := Aside0.mk (And.intro (ho.congr (upd0 _ _ _ _ _) (upd0 _ _ _ _ _)) HQ.out.2)
      clear HQ ho
      have HQ := n0_
      clear n0_
      refine hK.out _ _ (HS.out _ HQ.out.1.bel) (fun hHeld => ?_)
      clear hK K
      refine norm_ (a' := ?_) ?_ ?_
      rotate_left
      · show Act.put _ (some 14) _ = _
        simp only [Act.put, List.setIfInBounds_toArray, List.set_cons_zero, List.set_cons_succ, i64_w, i32_w]
        rfl
      exact norm_ (by first | (simp only [putAll, Act.put, List.setIfInBounds_toArray, List.set_cons_zero, List.set_cons_succ]; done) | (simp only [putAll, Act.put, List.setIfInBounds_toArray, List.set_cons_zero, List.set_cons_succ]; rfl)) (hJ0_7_19_27 ⟨s0, s7, s19, s27⟩ _ HQ.out)
    · skip
      refine mk_ (m := m1) 3 (by decide) HQ.out.1 hm1k (by rfl) rfl rfl (by first | rfl | (go_simp; done)) ?_
      intro s25 wn ho
      have n0_ := Aside0.mk (And.intro (ho.congr (upd3 _ _ _ _ _) (upd3 _ _ _ _ _)) HQ.out.2)
      clear HQ ho
      have HQ := n0_
      clear n0_
      refine hK.out _ _ (HS.out _ HQ.out.1.bel) (fun hHeld => ?_)
      clear hK K
      refine norm_ (a' := ?_) ?_ ?_
      rotate_left
      · show Act.put _ (some 39) _ = _
        simp only [Act.put, List.setIfInBounds_toArray, List.set_cons_zero, List.set_cons_succ, i64_w, i32_w]
        rfl
      exact norm_ (by first | (simp only [putAll, Act.put, List.setIfInBounds_toArray, List.set_cons_zero, List.set_cons_succ]; done) | (simp only [putAll, Act.put, List.setIfInBounds_toArray, List.set_cons_zero, List.set_cons_succ]; rfl)) (hJ7_19_25_27 ⟨s7, s19, s25, s27⟩ _ HQ.out)
  intro hJ7_19_27
  refine join_ (σ := Value × Value) 7 joins1.m67 (fun s_ => [(21, s_.1), (33, s_.2)]) (fun s_ w' => JQ w1 w' (q4 (.slice none 0 0) s_.1 s_.2 (.slice none 0 0)) (q4 [] [] (List.replicate m0 0) []) (.bool false) ∧ (True) ∧ (True)) ?_ ?_
  · rintro ⟨s7, s19⟩ w' hF_
    have HQ := Aside0.mk (show JQ w1 w' (q4 (.slice none 0 0) s7 s19 (.slice none 0 0)) (q4 [] [] (List.replicate m0 0) []) (.bool false) ∧ (True) ∧ (True) from hF_)
    clear hF_ hHeld
    refine norm_ (a' := ?_) ?_ ?_
    rotate_left
    · simp only [putAll, Act.put, List.setIfInBounds_toArray, List.set_cons_zero, List.set_cons_succ]
      rfl
    refine three_ (i := 0) (j := 25) (k := 27) (Ni := some 14) (Nj := some 39) (Nk := some 7) joins1.m51 joins1.m65 joins1.m66 rfl rfl rfl rfl rfl rfl (three_of HT_.out (by kernel_rfl)) (by decide) (by decide) (by decide) (fun K hK => ?_) (fun K hK => ?_) (fun K hK => ?_)
    · skip
      refine lit_ 0 (by decide) HQ.out.1 (by rfl) rfl (by rfl) ?_
      intro s0 wn ho
      have n0_ := Aside0.mk (And.intro (ho.congr (upd0 _ _ _ _ _) (upd0 _ _ _ _ _)) HQ.out.2)
      clear HQ ho
      have HQ := n0_
      clear n0_
      refine hK.out _ _ (HS.out _ HQ.out.1.bel) (fun hHeld => ?_)
      clear hK K
      refine norm_ (a' := ?_) ?_ ?_
      rotate_left
      · show Act.put _ (some 14) _ = _
        simp only [Act.put, List.setIfInBounds_toArray, List.set_cons_zero, List.set_cons_succ, i64_w, i32_w]
        rfl
      exact norm_ (by first | (simp only [putAll, Act.put, List.setIfInBounds_toArray, List.set_cons_zero, List.set_cons_succ]; done) | (simp only [putAll, Act.put, List.setIfInBounds_toArray, List.set_cons_zero, List.set_cons_succ]; rfl)) (hJ0_7_19 ⟨s0, s7, s19⟩ _ HQ.out)
    · skip
      refine mk_ (m := m1) 3 (by decide) HQ.out.1 hm1k (by rfl) rfl rfl (by first | rfl | (go_simp; done)) ?_
      intro s25 wn ho
      have n0_ := Aside0.mk (And.intro (ho.congr (upd3 _ _ _ _ _) (upd3 _ _ _ _ _)) HQ.out.2)
      clear HQ ho
      have HQ := n0_
      clear n0_
      refine hK.out _ _ (HS.out _ HQ.out.1.bel) (fun hHeld => ?_)
      clear hK K
      refine norm_ (a' := ?_) ?_ ?_
      rotate_left
      · show Act.put _ (some 39) _ = _
        simp only [Act.put, List.setIfInBounds_toArray, List.set_cons_zero, List.set_cons_succ, i64_w, i32_w]
        rfl
      exact norm_ (by first | (simp only [putAll, Act.put, List.setIfInBounds_toArray, List.set_cons_zero, List.set_cons_succ]; done) | (simp only [putAll, Act.put, List.setIfInBounds_toArray, List.set_cons_zero, List.set_cons_succ]; rfl)) (hJ7_19_25 ⟨s7, s19, s25⟩ _ HQ.out)
    · skip
      refine alloc_ HQ.out.1 (by rfl) rfl (by rfl) ?_
      intro s27 wn ho hp
      have n0_ := Aside0.mk (And.intro ho (And.intro HQ.out.2.1 hp))
      clear HQ ho hp
      have HQ := n0_
      clear n0_
      refine hK.out _ _ (HS.out _ HQ.out.1.bel) (fun hHeld => ?_)
      clear hK K
      refine norm_ (a' := ?_) ?_ ?_
      rotate_left
      · show Act.put _ (some 7) _ = _
        simp only [Act.put, List.setIfInBounds_toArray, List.set_cons_zero, List.set_cons_succ, i64_w, i32_w]
        rfl
      exact norm_ (by first | (simp only [putAll, Act.put, List.setIfInBounds_toArray, List.set_cons_zero, List.set_cons_succ]; done) | (simp only [putAll, Act.put, List.setIfInBounds_toArray, List.set_cons_zero, List.set_cons_succ]; rfl)) (hJ7_19_27 ⟨s7, s19, s27⟩ _ HQ.out)
  intro hJ7_19
  refine join_ (σ := Value × Value × Value) 6 joins1.m68 (fun s_ => [(21, s_.1), (39, s_.2.1), (7, s_.2.2)]) (fun s_ w' => JQ w1 w' (q4 (.slice none 0 0) s_.1 (.slice none 0 0) s_.2.1) (q4 [] [] [] (List.replicate m1 0)) s_.2.2 ∧ (True) ∧ (∃ b7, s_.2.2 = Value.pointer (some ⟨b7, 0, none⟩))) ?_ ?_
  · rintro ⟨s7, s25, s27⟩ w' hF_
    have HQ := Aside0.mk (show JQ w1 w' (q4 (.slice none 0 0) s7 (.slice none 0 0) s25) (q4 [] [] [] (List.replicate m1 0)) s27 ∧ (True) ∧ (∃ b7, s27 = Value.pointer (some ⟨b7, 0, none⟩)) from hF_)
    clear hF_ hHeld
    refine norm_ (a' := ?_) ?_ ?_
    rotate_left
    · simp only [putAll, Act.put, List.setIfInBounds_toArray, List.set_cons_zero, List.set_cons_succ]
      rfl
    refine two_ (i := 0) (j := 19) (Ni := some 14) (Nj := some 33) joins1.m52 joins1.m64 rfl rfl rfl rfl (two_of HT_.out (by kernel_rfl)) (by decide) (by decide) (fun K hK => ?_) (fun K hK => ?_)
    · skip
      refine lit_ 0 (by decide) HQ.out.1 (by rfl) rfl (by rfl) ?_
      intro s0 wn ho
      have n0_ := Aside0.mk (And.intro (ho.congr (upd0 _ _ _ _ _) (upd0 _ _ _ _ _)) HQ.out.2)
      clear HQ ho
      have HQ := n0_
      clear n0_
      refine hK.out _ _ (HS.out _ HQ.out.1.bel) (fun hHeld => ?_)
      clear hK K
      refine norm_ (a' := ?_) ?_ ?_
      rotate_left
      · show Act.put _ (some 14) _ = _
        simp only [Act.put, List.setIfInBounds_toArray, List.set_cons_zero, List.set_cons_succ, i64_w, i32_w]
        rfl
      exact norm_ (by first | (simp only [putAll, Act.put, List.setIfInBounds_toArray, List.set_cons_zero, List.set_cons_succ]; done) | (simp only [putAll, Act.put, List.setIfInBounds_toArray, List.set_cons_zero, List.set_cons_succ]; rfl)) (hJ0_7_25_27 ⟨s0, s7, s25, s27⟩ _ HQ.out)
    · skip
      refine mk_ (m := m0) 2 (by decide) HQ.out.1 hm0k (by rfl) rfl rfl (by first | rfl | (go_simp; done)) ?_
      intro s19 wn ho
      have n0_ := Aside0.mk (And.intro (ho.congr (upd2 _ _ _ _ _) (upd2 _ _ _ _ _)) HQ.out.2)
      clear HQ ho
      have HQ := n0_
      clear n0_
      refine hK.out _ _ (HS.out _ HQ.out.1.bel) (fun hHeld => ?_)
      clear hK K
      refine norm_ (a' := ?_) ?_ ?_
      rotate_left
      · show Act.put _ (some 33) _ = _
        simp only [Act.put, List.setIfInBounds_toArray, List.set_cons_zero, List.set_cons_succ, i64_w, i32_w]
        rfl
      exact norm_ (by first | (simp only [putAll, Act.put, List.setIfInBounds_toArray, List.set_cons_zero, List.set_cons_succ]; done) | (simp only [putAll, Act.put, List.setIfInBounds_toArray, List.set_cons_zero, List.set_cons_succ]; rfl)) (hJ7_19_25_27 ⟨s7, s19, s25, s27⟩ _ HQ.out)
  intro hJ7_25_27
  refine join_ (σ := Value × Value) 7 joins1.m69 (fun s_ => [(21, s_.1), (39, s_.2)]) (fun s_ w' => JQ w1 w' (q4 (.slice none 0 0) s_.1 (.slice none 0 0) s_.2) (q4 [] [] [] (List.replicate m1 0)) (.bool false) ∧ (True) ∧ (True)) ?_ ?_
  · rintro ⟨s7, s25⟩ w' hF_
    have HQ := Aside0.mk (show JQ w1 w' (q4 (.slice none 0 0) s7 (.slice none 0 0) s25) (q4 [] [] [] (List.replicate m1 0)) (.bool false) ∧ (True) ∧ (True) from hF_)
    clear hF_ hHeld
    refine norm_ (a' := ?_) ?_ ?_
    rotate_left
    · simp only [putAll, Act.put, List.setIfInBounds_toArray, List.set_cons_zero, List.set_cons_succ]
      rfl
    refine three_ (i := 0) (j := 19) (k := 27) (Ni := some 14) (Nj := some 33) (Nk := some 7) joins1.m53 joins1.m65 joins1.m68 rfl rfl rfl rfl rfl rfl (three_of HT_.out (by kernel_rfl)) (by decide) (by decide) (by decide) (fun K hK => ?_) (fun K hK => ?_) (fun K hK => ?_)
    · skip
      refine lit_ 0 (by decide) HQ.out.1 (by rfl) rfl (by rfl) ?_
      intro s0 wn ho
      have n0_ := Aside0.mk (And.intro (ho.congr (upd0 _ _ _ _ _) (upd0 _ _ _ _ _)) HQ.out.2)
      clear HQ ho
      have HQ := n0_
      clear n0_
      refine hK.out _ _ (HS.out _ HQ.out.1.bel) (fun hHeld => ?_)
      clear hK K
      refine norm_ (a' := ?_) ?_ ?_
      rotate_left
      · show Act.put _ (some 14) _ = _
        simp only [Act.put, List.setIfInBounds_toArray, List.set_cons_zero, List.set_cons_succ, i64_w, i32_w]
        rfl
      exact norm_ (by first | (simp only [putAll, Act.put, List.setIfInBounds_toArray, List.set_cons_zero, List.set_cons_succ]; done) | (simp only [putAll, Act.put, List.setIfInBounds_toArray, List.set_cons_zero, List.set_cons_succ]; rfl)) (hJ0_7_25 ⟨s0, s7, s25⟩ _ HQ.out)
    · skip
      refine mk_ (m := m0) 2 (by decide) HQ.out.1 hm0k (by rfl) rfl rfl (by first | rfl | (go_simp; done)) ?_
      intro s19 wn ho
      have n0_ := Aside0.mk (And.intro (ho.congr (upd2 _ _ _ _ _) (upd2 _ _ _ _ _)) HQ.out.2)
      clear HQ ho
      have HQ := n0_
      clear n0_
      refine hK.out _ _ (HS.out _ HQ.out.1.bel) (fun hHeld => ?_)
      clear hK K
      refine norm_ (a' := ?_) ?_ ?_
      rotate_left
      · show Act.put _ (some 33) _ = _
        simp only [Act.put, List.setIfInBounds_toArray, List.set_cons_zero, List.set_cons_succ, i64_w, i32_w]
        rfl
      exact norm_ (by first | (simp only [putAll, Act.put, List.setIfInBounds_toArray, List.set_cons_zero, List.set_cons_succ]; done) | (simp only [putAll, Act.put, List.setIfInBounds_toArray, List.set_cons_zero, List.set_cons_succ]; rfl)) (hJ7_19_25 ⟨s7, s19, s25⟩ _ HQ.out)
    · skip
      refine alloc_ HQ.out.1 (by rfl) rfl (by rfl) ?_
      intro s27 wn ho hp
      have n0_ := Aside0.mk (And.intro ho (And.intro HQ.out.2.1 hp))
      clear HQ ho hp
      have HQ := n0_
      clear n0_
      refine hK.out _ _ (HS.out _ HQ.out.1.bel) (fun hHeld => ?_)
      clear hK K
      refine norm_ (a' := ?_) ?_ ?_
      rotate_left
      · show Act.put _ (some 7) _ = _
        simp only [Act.put, List.setIfInBounds_toArray, List.set_cons_zero, List.set_cons_succ, i64_w, i32_w]
        rfl
      exact norm_ (by first | (simp only [putAll, Act.put, List.setIfInBounds_toArray, List.set_cons_zero, List.set_cons_succ]; done) | (simp only [putAll, Act.put, List.setIfInBounds_toArray, List.set_cons_zero, List.set_cons_succ]; rfl)) (hJ7_25_27 ⟨s7, s25, s27⟩ _ HQ.out)
  intro hJ7_25
  refine join_ (σ := Value × Value) 7 joins1.m70 (fun s_ => [(21, s_.1), (7, s_.2)]) (fun s_ w' => JQ w1 w' (q4 (.slice none 0 0) s_.1 (.slice none 0 0) (.slice none 0 0)) (q4 [] [] [] []) s_.2 ∧ (True) ∧ (∃ b7, s_.2 = Value.pointer (some ⟨b7, 0, none⟩))) ?_ ?_
  · rintro ⟨s7, s27⟩ w' hF_
    have HQ := Aside0.mk (show JQ w1 w' (q4 (.slice none 0 0) s7 (.slice none 0 0) (.slice none 0 0)) (q4 [] [] [] []) s27 ∧ (True) ∧ (∃ b7, s27 = Value.pointer (some ⟨b7, 0, none⟩)) from hF_)
    clear hF_ hHeld
    refine norm_ (a' := ?_) ?_ ?_
    rotate_left
    · simp only [putAll, Act.put, List.setIfInBounds_toArray, List.set_cons_zero, List.set_cons_succ]
      rfl
    refine three_ (i := 0) (j := 19) (k := 25) (Ni := some 14) (Nj := some 33) (Nk := some 39) joins1.m54 joins1.m66 joins1.m68 rfl rfl rfl rfl rfl rfl (three_of HT_.out (by kernel_rfl)) (by decide) (by decide) (by decide) (fun K hK => ?_) (fun K hK => ?_) (fun K hK => ?_)
    · skip
      refine lit_ 0 (by decide) HQ.out.1 (by rfl) rfl (by rfl) ?_
      intro s0 wn ho
      have n0_ := Aside0.mk (And.intro (ho.congr (upd0 _ _ _ _ _) (upd0 _ _ _ _ _)) HQ.out.2)
      clear HQ ho
      have HQ := n0_
      clear n0_
      refine hK.out _ _ (HS.out _ HQ.out.1.bel) (fun hHeld => ?_)
      clear hK K
      refine norm_ (a' := ?_) ?_ ?_
      rotate_left
      · show Act.put _ (some 14) _ = _
        simp only [Act.put, List.setIfInBounds_toArray, List.set_cons_zero, List.set_cons_succ, i64_w, i32_w]
        rfl
      exact norm_ (by first | (simp only [putAll, Act.put, List.setIfInBounds_toArray, List.set_cons_zero, List.set_cons_succ]; done) | (simp only [putAll, Act.put, List.setIfInBounds_toArray, List.set_cons_zero, List.set_cons_succ]; rfl)) (hJ0_7_27 ⟨s0, s7, s27⟩ _ HQ.out)
    · skip
      refine mk_ (m := m0) 2 (by decide) HQ.out.1 hm0k (by rfl) rfl rfl (by first | rfl | (go_simp; done)) ?_
      intro s19 wn ho
      have n0_ := Aside0.mk (And.intro (ho.congr (upd2 _ _ _ _ _) (upd2 _ _ _ _ _)) HQ.out.2)
      clear HQ ho
      have HQ := n0_
      clear n0_
      refine hK.out _ _ (HS.out _ HQ.out.1.bel) (fun hHeld => ?_)
      clear hK K
      refine norm_ (a' := ?_) ?_ ?_
      rotate_left
      · show Act.put _ (some 33) _ = _
        simp only [Act.put, List.setIfInBounds_toArray, List.set_cons_zero, List.set_cons_succ, i64_w, i32_w]
        rfl
      exact norm_ (by first | (simp only [putAll, Act.put, List.setIfInBounds_toArray, List.set_cons_zero, List.set_cons_succ]; done) | (simp only [putAll, Act.put, List.setIfInBounds_toArray, List.set_cons_zero, List.set_cons_succ]; rfl)) (hJ7_19_27 ⟨s7, s19, s27⟩ _ HQ.out)
    · skip
      refine mk_ (m := m1) 3 (by decide) HQ.out.1 hm1k (by rfl) rfl rfl (by first | rfl | (go_simp; done)) ?_
      intro s25 wn ho
      have n0_ := Aside0.mk (And.intro (ho.congr (upd3 _ _ _ _ _) (upd3 _ _ _ _ _)) HQ.out.2)
      clear HQ ho
      have HQ := n0_
      clear n0_
      refine hK.out _ _ (HS.out _ HQ.out.1.bel) (fun hHeld => ?_)
      clear hK K
      refine norm_ (a' := ?_) ?_ ?_
      rotate_left
      · show Act.put _ (some 39) _ = _
        simp only [Act.put, List.setIfInBounds_toArray, List.set_cons_zero, List.set_cons_succ, i64_w, i32_w]
        rfl
      exact norm_ (by first | (simp only [putAll, Act.put, List.setIfInBounds_toArray, List.set_cons_zero, List.set_cons_succ]; done) | (simp only [putAll, Act.put, List.setIfInBounds_toArray, List.set_cons_zero, List.set_cons_succ]; rfl)) (hJ7_25_27 ⟨s7, s25, s27⟩ _ HQ.out)
  intro hJ7_27
  refine join_ (σ := Value) 8 joins1.m71 (fun s_ => [(21, s_)]) (fun s_ w' => JQ w1 w' (q4 (.slice none 0 0) s_ (.slice none 0 0) (.slice none 0 0)) (q4 [] [] [] []) (.bool false) ∧ (True) ∧ (True)) ?_ ?_
  · rintro s7 w' hF_
    have HQ := Aside0.mk (show JQ w1 w' (q4 (.slice none 0 0) s7 (.slice none 0 0) (.slice none 0 0)) (q4 [] [] [] []) (.bool false) ∧ (True) ∧ (True) from hF_)
    clear hF_ hHeld
    refine norm_ (a' := ?_) ?_ ?_
    rotate_left
    · simp only [putAll, Act.put, List.setIfInBounds_toArray, List.set_cons_zero, List.set_cons_succ]
      rfl
    refine four_ (i := 0) (j := 19) (k := 25) (m := 27) (Ni := some 14) (Nj := some 33) (Nk := some 39) (Nm := some 7) joins1.m55 joins1.m67 joins1.m69 joins1.m70 rfl rfl rfl rfl rfl rfl rfl rfl (four_of HT_.out (by kernel_rfl)) (by decide) (by decide) (by decide) (by decide) (fun K hK => ?_) (fun K hK => ?_) (fun K hK => ?_) (fun K hK => ?_)
    · skip
      refine lit_ 0 (by decide) HQ.out.1 (by rfl) rfl (by rfl) ?_
      intro s0 wn ho
      have n0_ := Aside0.mk (And.intro (ho.congr (upd0 _ _ _ _ _) (upd0 _ _ _ _ _)) HQ.out.2)
      clear HQ ho
      have HQ := n0_
      clear n0_
      refine hK.out _ _ (HS.out _ HQ.out.1.bel) (fun hHeld => ?_)
      clear hK K
      refine norm_ (a' := ?_) ?_ ?_
      rotate_left
      · show Act.put _ (some 14) _ = _
        simp only [Act.put, List.setIfInBounds_toArray, List.set_cons_zero, List.set_cons_succ, i64_w, i32_w]
        rfl
      exact norm_ (by first | (simp only [putAll, Act.put, List.setIfInBounds_toArray, List.set_cons_zero, List.set_cons_succ]; done) | (simp only [putAll, Act.put, List.setIfInBounds_toArray, List.set_cons_zero, List.set_cons_succ]; rfl)) (hJ0_7 ⟨s0, s7⟩ _ HQ.out)
    · skip
      refine mk_ (m := m0) 2 (by decide) HQ.out.1 hm0k (by rfl) rfl rfl (by first | rfl | (go_simp; done)) ?_
      intro s19 wn ho
      have n0_ := Aside0.mk (And.intro (ho.congr (upd2 _ _ _ _ _) (upd2 _ _ _ _ _)) HQ.out.2)
      clear HQ ho
      have HQ := n0_
      clear n0_
      refine hK.out _ _ (HS.out _ HQ.out.1.bel) (fun hHeld => ?_)
      clear hK K
      refine norm_ (a' := ?_) ?_ ?_
      rotate_left
      · show Act.put _ (some 33) _ = _
        simp only [Act.put, List.setIfInBounds_toArray, List.set_cons_zero, List.set_cons_succ, i64_w, i32_w]
        rfl
      exact norm_ (by first | (simp only [putAll, Act.put, List.setIfInBounds_toArray, List.set_cons_zero, List.set_cons_succ]; done) | (simp only [putAll, Act.put, List.setIfInBounds_toArray, List.set_cons_zero, List.set_cons_succ]; rfl)) (hJ7_19 ⟨s7, s19⟩ _ HQ.out)
    · skip
      refine mk_ (m := m1) 3 (by decide) HQ.out.1 hm1k (by rfl) rfl rfl (by first | rfl | (go_simp; done)) ?_
      intro s25 wn ho
      have n0_ := Aside0.mk (And.intro (ho.congr (upd3 _ _ _ _ _) (upd3 _ _ _ _ _)) HQ.out.2)
      clear HQ ho
      have HQ := n0_
      clear n0_
      refine hK.out _ _ (HS.out _ HQ.out.1.bel) (fun hHeld => ?_)
      clear hK K
      refine norm_ (a' := ?_) ?_ ?_
      rotate_left
      · show Act.put _ (some 39) _ = _
        simp only [Act.put, List.setIfInBounds_toArray, List.set_cons_zero, List.set_cons_succ, i64_w, i32_w]
        rfl
      exact norm_ (by first | (simp only [putAll, Act.put, List.setIfInBounds_toArray, List.set_cons_zero, List.set_cons_succ]; done) | (simp only [putAll, Act.put, List.setIfInBounds_toArray, List.set_cons_zero, List.set_cons_succ]; rfl)) (hJ7_25 ⟨s7, s25⟩ _ HQ.out)
    · skip
      refine alloc_ HQ.out.1 (by rfl) rfl (by rfl) ?_
      intro s27 wn ho hp
      have n0_ := Aside0.mk (And.intro ho (And.intro HQ.out.2.1 hp))
      clear HQ ho hp
      have HQ := n0_
      clear n0_
      refine hK.out _ _ (HS.out _ HQ.out.1.bel) (fun hHeld => ?_)
      clear hK K
      refine norm_ (a' := ?_) ?_ ?_
      rotate_left
      · show Act.put _ (some 7) _ = _
        simp only [Act.put, List.setIfInBounds_toArray, List.set_cons_zero, List.set_cons_succ, i64_w, i32_w]
        rfl
      exact norm_ (by first | (simp only [putAll, Act.put, List.setIfInBounds_toArray, List.set_cons_zero, List.set_cons_succ]; done) | (simp only [putAll, Act.put, List.setIfInBounds_toArray, List.set_cons_zero, List.set_cons_succ]; rfl)) (hJ7_27 ⟨s7, s27⟩ _ HQ.out)
  intro hJ7
  refine join_ (σ := Value × Value × Value) 6 joins1.m72 (fun s_ => [(33, s_.1), (39, s_.2.1), (7, s_.2.2)]) (fun s_ w' => JQ w1 w' (q4 (.slice none 0 0) (.slice none 0 0) s_.1 s_.2.1) (q4 [] [] (List.replicate m0 0) (List.replicate m1 0)) s_.2.2 ∧ (True) ∧ (∃ b7, s_.2.2 = Value.pointer (some ⟨b7, 0, none⟩))) ?_ ?_
  · rintro ⟨s19, s25, s27⟩ w' hF_
    have HQ := Aside0.mk (show JQ w1 w' (q4 (.slice none 0 0) (.slice none 0 0) s19 s25) (q4 [] [] (List.replicate m0 0) (List.replicate m1 0)) s27 ∧ (True) ∧ (∃ b7, s27 = Value.pointer (some ⟨b7, 0, none⟩)) from hF_)
    clear hF_ hHeld
    refine norm_ (a' := ?_) ?_ ?_
    rotate_left
    · simp only [putAll, Act.put, List.setIfInBounds_toArray, List.set_cons_zero, List.set_cons_succ]
      rfl
    refine two_ (i := 0) (j := 7) (Ni := some 14) (Nj := some 21) joins1.m56 joins1.m64 rfl rfl rfl rfl (two_of HT_.out (by kernel_rfl)) (by decide) (by decide) (fun K hK => ?_) (fun K hK => ?_)
    · skip
      refine lit_ 0 (by decide) HQ.out.1 (by rfl) rfl (by rfl) ?_
      intro s0 wn ho
      have n0_ := Aside0.mk (And.intro (ho.congr (upd0 _ _ _ _ _) (upd0 _ _ _ _ _)) HQ.out.2)
      clear HQ ho
      have HQ := n0_
      clear n0_
      refine hK.out _ _ (HS.out _ HQ.out.1.bel) (fun hHeld => ?_)
      clear hK K
      refine norm_ (a' := ?_) ?_ ?_
      rotate_left
      · show Act.put _ (some 14) _ = _
        simp only [Act.put, List.setIfInBounds_toArray, List.set_cons_zero, List.set_cons_succ, i64_w, i32_w]
        rfl
      exact norm_ (by first | (simp only [putAll, Act.put, List.setIfInBounds_toArray, List.set_cons_zero, List.set_cons_succ]; done) | (simp only [putAll, Act.put, List.setIfInBounds_toArray, List.set_cons_zero, List.set_cons_succ]; rfl)) (hJ0_19_25_27 ⟨s0, s19, s25, s27⟩ _ HQ.out)
    · skip
      refine lit_ 1 (by decide) HQ.out.1 (by rfl) rfl (by rfl) ?_
      intro s7 wn ho
      have n0_ := Aside0.mk (And.intro (ho.congr (upd1 _ _ _ _ _) (upd1 _ _ _ _ _)) HQ.out.2)
      clear HQ ho
      have HQ := n0_
      clear n0_
      refine hK.out _ _ (HS.out _ HQ.out.1.bel) (fun hHeld => ?_)
      clear hK K
      refine norm_ (a' := ?_) ?_ ?_
      rotate_left
      · show Act.put _ (some 21) _ = _
        simp only [Act.put, List.setIfInBounds_toArray, List.set_cons_zero, List.set_cons_succ, i64_w, i32_w]
        rfl
      exact norm_ (by first | (simp only [putAll, Act.put, List.setIfInBounds_toArray, List.set_cons_zero, List.set_cons_succ]; done) | (simp only [putAll, Act.put, List.setIfInBounds_toArray, List.set_cons_zero, List.set_cons_succ]; rfl)) (hJ7_19_25_27 ⟨s7, s19, s25, s27⟩ _ HQ.out)
  intro hJ19_25_27
  refine join_ (σ := Value × Value) 7 joins1.m73 (fun s_ => [(33, s_.1), (39, s_.2)]) (fun s_ w' => JQ w1 w' (q4 (.slice none 0 0) (.slice none 0 0) s_.1 s_.2) (q4 [] [] (List.replicate m0 0) (List.replicate m1 0)) (.bool false) ∧ (True) ∧ (True)) ?_ ?_
  · rintro ⟨s19, s25⟩ w' hF_
    have HQ := Aside0.mk (show JQ w1 w' (q4 (.slice none 0 0) (.slice none 0 0) s19 s25) (q4 [] [] (List.replicate m0 0) (List.replicate m1 0)) (.bool false) ∧ (True) ∧ (True) from hF_)
    clear hF_ hHeld
    refine norm_ (a' := ?_) ?_ ?_
    rotate_left
    · simp only [putAll, Act.put, List.setIfInBounds_toArray, List.set_cons_zero, List.set_cons_succ]
      rfl
    refine three_ (i := 0) (j := 7) (k := 27) (Ni := some 14) (Nj := some 21) (Nk := some 7) joins1.m57 joins1.m65 joins1.m72 rfl rfl rfl rfl rfl rfl (three_of HT_.out (by kernel_rfl)) (by decide) (by decide) (by decide) (fun K hK => ?_) (fun K hK => ?_) (fun K hK => ?_)
    · skip
      refine lit_ 0 (by decide) HQ.out.1 (by rfl) rfl (by rfl) ?_
      intro s0 wn ho
      have n0_ := Aside0.mk (And.intro (ho.congr (upd0 _ _ _ _ _) (upd0 _ _ _ _ _)) HQ.out.2)
      clear HQ ho
      have HQ := n0_
      clear n0_
      refine hK.out _ _ (HS.out _ HQ.out.1.bel) (fun hHeld => ?_)
      clear hK K
      refine norm_ (a' := ?_) ?_ ?_
      rotate_left
      · show Act.put _ (some 14) _ = _
        simp only [Act.put, List.setIfInBounds_toArray, List.set_cons_zero, List.set_cons_succ, i64_w, i32_w]
        rfl
      exact norm_ (by first | (simp only [putAll, Act.put, List.setIfInBounds_toArray, List.set_cons_zero, List.set_cons_succ]; done) | (simp only [putAll, Act.put, List.setIfInBounds_toArray, List.set_cons_zero, List.set_cons_succ]; rfl)) (hJ0_19_25 ⟨s0, s19, s25⟩ _ HQ.out)
    · skip
      refine lit_ 1 (by decide) HQ.out.1 (by rfl) rfl (by rfl) ?_
      intro s7 wn ho
      have n0_ := Aside0.mk (And.intro (ho.congr (upd1 _ _ _ _ _) (upd1 _ _ _ _ _)) HQ.out.2)
      clear HQ ho
      have HQ := n0_
      clear n0_
      refine hK.out _ _ (HS.out _ HQ.out.1.bel) (fun hHeld => ?_)
      clear hK K
      refine norm_ (a' := ?_) ?_ ?_
      rotate_left
      · show Act.put _ (some 21) _ = _
        simp only [Act.put, List.setIfInBounds_toArray, List.set_cons_zero, List.set_cons_succ, i64_w, i32_w]
        rfl
      exact norm_ (by first | (simp only [putAll, Act.put, List.setIfInBounds_toArray, List.set_cons_zero, List.set_cons_succ]; done) | (simp only [putAll, Act.put, List.setIfInBounds_toArray, List.set_cons_zero, List.set_cons_succ]; rfl)) (hJ7_19_25 ⟨s7, s19, s25⟩ _ HQ.out)
    · skip
      refine alloc_ HQ.out.1 (by rfl) rfl (by rfl) ?_
      intro s27 wn ho hp
      have n0_ := Aside0.mk (And.intro ho (And.intro HQ.out.2.1 hp))
      clear HQ ho hp
      have HQ := n0_
      clear n0_
      refine hK.out _ _ (HS.out _ HQ.out.1.bel) (fun hHeld => ?_)
      clear hK K
      refine norm_ (a' := ?_) ?_ ?_
      rotate_left
      · show Act.put _ (some 7) _ = _
        simp only [Act.put, List.setIfInBounds_toArray, List.set_cons_zero, List.set_cons_succ, i64_w, i32_w]
        rfl
      exact norm_ (by first | (simp only [putAll, Act.put, List.setIfInBounds_toArray, List.set_cons_zero, List.set_cons_succ]; done) | (simp only [putAll, Act.put, List.setIfInBounds_toArray, List.set_cons_zero, List.set_cons_succ]; rfl)) (hJ19_25_27 ⟨s19, s25, s27⟩ _ HQ.out)
  intro hJ19_25
  refine join_ (σ := Value × Value) 7 joins1.m74 (fun s_ => [(33, s_.1), (7, s_.2)]) (fun s_ w' => JQ w1 w' (q4 (.slice none 0 0) (.slice none 0 0) s_.1 (.slice none 0 0)) (q4 [] [] (List.replicate m0 0) []) s_.2 ∧ (True) ∧ (∃ b7, s_.2 = Value.pointer (some ⟨b7, 0, none⟩))) ?_ ?_
  · rintro ⟨s19, s27⟩ w' hF_
    have HQ := Aside0.mk (show JQ w1 w' (q4 (.slice none 0 0) (.slice none 0 0) s19 (.slice none 0 0)) (q4 [] [] (List.replicate m0 0) []) s27 ∧ (True) ∧ (∃ b7, s27 = Value.pointer (some ⟨b7, 0, none⟩)) from hF_)
    clear hF_ hHeld
    refine norm_ (a' := ?_) ?_ ?_
    rotate_left
    · simp only [putAll, Act.put, List.setIfInBounds_toArray, List.set_cons_zero, List.set_cons_succ]
      rfl
    refine three_ (i := 0) (j := 7) (k := 25) (Ni := some 14) (Nj := some 21) (Nk := some 39) joins1.m58 joins1.m66 joins1.m72 rfl rfl rfl rfl rfl rfl (three_of HT_.out (by kernel_rfl)) (by decide) (by decide) (by decide) (fun K hK => ?_) (fun K hK => ?_) (fun K hK => ?_)
    · skip
      refine lit_ 0 (by decide) HQ.out.1 (by rfl) rfl (by rfl) ?_
      intro s0 wn ho
      have n0_ := Aside0.mk (And.intro (ho.congr (upd0 _ _ _ _ _) (upd0 _ _ _ _ _)) HQ.out.2)
      clear HQ ho
      have HQ := n0_
      clear n0_
      refine hK.out _ _ (HS.out _ HQ.out.1.bel) (fun hHeld => ?_)
      clear hK K
      refine norm_ (a' := ?_) ?_ ?_
      rotate_left
      · show Act.put _ (some 14) _ = _
        simp only [Act.put, List.setIfInBounds_toArray, List.set_cons_zero, List.set_cons_succ, i64_w, i32_w]
        rfl
      exact norm_ (by first | (simp only [putAll, Act.put, List.setIfInBounds_toArray, List.set_cons_zero, List.set_cons_succ]; done) | (simp only [putAll, Act.put, List.setIfInBounds_toArray, List.set_cons_zero, List.set_cons_succ]; rfl)) (hJ0_19_27 ⟨s0, s19, s27⟩ _ HQ.out)
    · skip
      refine lit_ 1 (by decide) HQ.out.1 (by rfl) rfl (by rfl) ?_
      intro s7 wn ho
      have n0_ := Aside0.mk (And.intro (ho.congr (upd1 _ _ _ _ _) (upd1 _ _ _ _ _)) HQ.out.2)
      clear HQ ho
      have HQ := n0_
      clear n0_
      refine hK.out _ _ (HS.out _ HQ.out.1.bel) (fun hHeld => ?_)
      clear hK K
      refine norm_ (a' := ?_) ?_ ?_
      rotate_left
      · show Act.put _ (some 21) _ = _
        simp only [Act.put, List.setIfInBounds_toArray, List.set_cons_zero, List.set_cons_succ, i64_w, i32_w]
        rfl
      exact norm_ (by first | (simp only [putAll, Act.put, List.setIfInBounds_toArray, List.set_cons_zero, List.set_cons_succ]; done) | (simp only [putAll, Act.put, List.setIfInBounds_toArray, List.set_cons_zero, List.set_cons_succ]; rfl)) (hJ7_19_27 ⟨s7, s19, s27⟩ _ HQ.out)
    · skip
      refine mk_ (m := m1) 3 (by decide) HQ.out.1 hm1k (by rfl) rfl rfl (by first | rfl | (go_simp; done)) ?_
      intro s25 wn ho
      have n0_ := Aside0.mk (And.intro (ho.congr (upd3 _ _ _ _ _) (upd3 _ _ _ _ _)) HQ.out.2)
      clear HQ ho
      have HQ := n0_
      clear n0_
      refine hK.out _ _ (HS.out _ HQ.out.1.bel) (fun hHeld => ?_)
      clear hK K
      refine norm_ (a' := ?_) ?_ ?_
      rotate_left
      · show Act.put _ (some 39) _ = _
        simp only [Act.put, List.setIfInBounds_toArray, List.set_cons_zero, List.set_cons_succ, i64_w, i32_w]
        rfl
      exact norm_ (by first | (simp only [putAll, Act.put, List.setIfInBounds_toArray, List.set_cons_zero, List.set_cons_succ]; done) | (simp only [putAll, Act.put, List.setIfInBounds_toArray, List.set_cons_zero, List.set_cons_succ]; rfl)) (hJ19_25_27 ⟨s19, s25, s27⟩ _ HQ.out)
  intro hJ19_27
  refine join_ (σ := Value) 8 joins1.m75 (fun s_ => [(33, s_)]) (fun s_ w' => JQ w1 w' (q4 (.slice none 0 0) (.slice none 0 0) s_ (.slice none 0 0)) (q4 [] [] (List.replicate m0 0) []) (.bool false) ∧ (True) ∧ (True)) ?_ ?_
  · rintro s19 w' hF_
    have HQ := Aside0.mk (show JQ w1 w' (q4 (.slice none 0 0) (.slice none 0 0) s19 (.slice none 0 0)) (q4 [] [] (List.replicate m0 0) []) (.bool false) ∧ (True) ∧ (True) from hF_)
    clear hF_ hHeld
    refine norm_ (a' := ?_) ?_ ?_
    rotate_left
    · simp only [putAll, Act.put, List.setIfInBounds_toArray, List.set_cons_zero, List.set_cons_succ]
      rfl
    refine four_ (i := 0) (j := 7) (k := 25) (m := 27) (Ni := some 14) (Nj := some 21) (Nk := some 39) (Nm := some 7) joins1.m59 joins1.m67 joins1.m73 joins1.m74 rfl rfl rfl rfl rfl rfl rfl rfl (four_of HT_.out (by kernel_rfl)) (by decide) (by decide) (by decide) (by decide) (fun K hK => ?_) (fun K hK => ?_) (fun K hK => ?_) (fun K hK => ?_)
    · skip
      refine lit_ 0 (by decide) HQ.out.1 (by rfl) rfl (by rfl) ?_
      intro s0 wn ho
      have n0_ := Aside0.mk (And.intro (ho.congr (upd0 _ _ _ _ _) (upd0 _ _ _ _ _)) HQ.out.2)
      clear HQ ho
      have HQ := n0_
      clear n0_
      refine hK.out _ _ (HS.out _ HQ.out.1.bel) (fun hHeld => ?_)
      clear hK K
      refine norm_ (a' := ?_) ?_ ?_
      rotate_left
      · show Act.put _ (some 14) _ = _
        simp only [Act.put, List.setIfInBounds_toArray, List.set_cons_zero, List.set_cons_succ, i64_w, i32_w]
        rfl
      exact norm_ (by first | (simp only [putAll, Act.put, List.setIfInBounds_toArray, List.set_cons_zero, List.set_cons_succ]; done) | (simp only [putAll, Act.put, List.setIfInBounds_toArray, List.set_cons_zero, List.set_cons_succ]; rfl)) (hJ0_19 ⟨s0, s19⟩ _ HQ.out)
    · skip
      refine lit_ 1 (by decide) HQ.out.1 (by rfl) rfl (by rfl) ?_
      intro s7 wn ho
      have n0_ := Aside0.mk (And.intro (ho.congr (upd1 _ _ _ _ _) (upd1 _ _ _ _ _)) HQ.out.2)
      clear HQ ho
      have HQ := n0_
      clear n0_
      refine hK.out _ _ (HS.out _ HQ.out.1.bel) (fun hHeld => ?_)
      clear hK K
      refine norm_ (a' := ?_) ?_ ?_
      rotate_left
      · show Act.put _ (some 21) _ = _
        simp only [Act.put, List.setIfInBounds_toArray, List.set_cons_zero, List.set_cons_succ, i64_w, i32_w]
        rfl
      exact norm_ (by first | (simp only [putAll, Act.put, List.setIfInBounds_toArray, List.set_cons_zero, List.set_cons_succ]; done) | (simp only [putAll, Act.put, List.setIfInBounds_toArray, List.set_cons_zero, List.set_cons_succ]; rfl)) (hJ7_19 ⟨s7, s19⟩ _ HQ.out)
    · skip
      refine mk_ (m := m1) 3 (by decide) HQ.out.1 hm1k (by rfl) rfl rfl (by first | rfl | (go_simp; done)) ?_
      intro s25 wn ho
      have n0_ := Aside0.mk (And.intro (ho.congr (upd3 _ _ _ _ _) (upd3 _ _ _ _ _)) HQ.out.2)
      clear HQ ho
      have HQ := n0_
      clear n0_
      refine hK.out _ _ (HS.out _ HQ.out.1.bel) (fun hHeld => ?_)
      clear hK K
      refine norm_ (a' := ?_) ?_ ?_
      rotate_left
      · show Act.put _ (some 39) _ = _
        simp only [Act.put, List.setIfInBounds_toArray, List.set_cons_zero, List.set_cons_succ, i64_w, i32_w]
        rfl
      exact norm_ (by first | (simp only [putAll, Act.put, List.setIfInBounds_toArray, List.set_cons_zero, List.set_cons_succ]; done) | (simp only [putAll, Act.put, List.setIfInBounds_toArray, List.set_cons_zero, List.set_cons_succ]; rfl)) (hJ19_25 ⟨s19, s25⟩ _ HQ.out)
    · skip
      refine alloc_ HQ.out.1 (by rfl) rfl (by rfl) ?_
      intro s27 wn ho hp
      have n0_ := Aside0.mk (And.intro ho (And.intro HQ.out.2.1 hp))
      clear HQ ho hp
      have HQ := n0_
      clear n0_
      refine hK.out _ _ (HS.out _ HQ.out.1.bel) (fun hHeld => ?_)
      clear hK K
      refine norm_ (a' := ?_) ?_ ?_
      rotate_left
      · show Act.put _ (some 7) _ = _
        simp only [Act.put, List.setIfInBounds_toArray, List.set_cons_zero, List.set_cons_succ, i64_w, i32_w]
        rfl
      exact norm_ (by first | (simp only [putAll, Act.put, List.setIfInBounds_toArray, List.set_cons_zero, List.set_cons_succ]; done) | (simp only [putAll, Act.put, List.setIfInBounds_toArray, List.set_cons_zero, List.set_cons_succ]; rfl)) (hJ19_27 ⟨s19, s27⟩ _ HQ.out)
  intro hJ19
  refine join_ (σ := Value × Value) 7 joins1.m76 (fun s_ => [(39, s_.1), (7, s_.2)]) (fun s_ w' => JQ w1 w' (q4 (.slice none 0 0) (.slice none 0 0) (.slice none 0 0) s_.1) (q4 [] [] [] (List.replicate m1 0)) s_.2 ∧ (True) ∧ (∃ b7, s_.2 = Value.pointer (some ⟨b7, 0, none⟩))) ?_ ?_
  · rintro ⟨s25, s27⟩ w' hF_
    have HQ := Aside0.mk (show JQ w1 w' (q4 (.slice none 0 0) (.slice none 0 0) (.slice none 0 0) s25) (q4 [] [] [] (List.replicate m1 0)) s27 ∧ (True) ∧ (∃ b7, s27 = Value.pointer (some ⟨b7, 0, none⟩)) from hF_)
    clear hF_ hHeld
    refine norm_ (a' := ?_) ?_ ?_
    rotate_left
    · simp only [putAll, Act.put, List.setIfInBounds_toArray, List.set_cons_zero, List.set_cons_succ]
      rfl
    refine three_ (i := 0) (j := 7) (k := 19) (Ni := some 14) (Nj := some 21) (Nk := some 33) joins1.m60 joins1.m68 joins1.m72 rfl rfl rfl rfl rfl rfl (three_of HT_.out (by kernel_rfl)) (by decide) (by decide) (by decide) (fun K hK => ?_) (fun K hK => ?_) (fun K hK => ?_)
    · skip
      refine lit_ 0 (by decide) HQ.out.1 (by rfl) rfl (by rfl) ?_
      intro s0 wn ho
      have n0_ := Aside0.mk (And.intro (ho.congr (upd0 _ _ _ _ _) (upd0 _ _ _ _ _)) HQ.out.2)
      clear HQ ho
      have HQ := n0_
      clear n0_
      refine hK.out _ _ (HS.out _ HQ.out.1.bel) (fun hHeld => ?_)
      clear hK K
      refine norm_ (a' := ?_) ?_ ?_
      rotate_left
      · show Act.put _ (some 14) _ = _
        simp only [Act.put, List.setIfInBounds_toArray, List.set_cons_zero, List.set_cons_succ, i64_w, i32_w]
        rfl
      exact norm_ (by first | (simp only [putAll, Act.put, List.setIfInBounds_toArray, List.set_cons_zero, List.set_cons_succ]; done) | (simp only [putAll, Act.put, List.setIfInBounds_toArray, List.set_cons_zero, List.set_cons_succ]; rfl)) (hJ0_25_27 ⟨s0, s25, s27⟩ _ HQ.out)
    · skip
      refine lit_ 1 (by decide) HQ.out.1 (by rfl) rfl (by rfl) ?_
      intro s7 wn ho
      have n0_ := Aside0.mk (And.intro (ho.congr (upd1 _ _ _ _ _) (upd1 _ _ _ _ _)) HQ.out.2)
      clear HQ ho
      have HQ := n0_
      clear n0_
      refine hK.out _ _ (HS.out _ HQ.out.1.bel) (fun hHeld => ?_)
      clear hK K
      refine norm_ (a' := ?_) ?_ ?_
      rotate_left
      · show Act.put _ (some 21) _ = _
        simp only [Act.put, List.setIfInBounds_toArray, List.set_cons_zero, List.set_cons_succ, i64_w, i32_w]
        rfl
      exact norm_ (by first | (simp only [putAll, Act.put, List.setIfInBounds_toArray, List.set_cons_zero, List.set_cons_succ]; done) | (simp only [putAll, Act.put, List.setIfInBounds_toArray, List.set_cons_zero, List.set_cons_succ]; rfl)) (hJ7_25_27 ⟨s7, s25, s27⟩ _ HQ.out)
    · skip
      refine mk_ (m := m0) 2 (by decide) HQ.out.1 hm0k (by rfl) rfl rfl (by first | rfl | (go_simp; done)) ?_
      intro s19 wn ho
      have n0_ := Aside0.mk (And.intro (ho.congr (upd2 _ _ _ _ _) (upd2 _ _ _ _ _)) HQ.out.2)
      clear HQ ho
      have HQ := n0_
      clear n0_
      refine hK.out _ _ (HS.out _ HQ.out.1.bel) (fun hHeld => ?_)
      clear hK K
      refine norm_ (a' := ?_) ?_ ?_
      rotate_left
      · show Act.put _ (some 33) _ = _
        simp only [Act.put, List.setIfInBounds_toArray, List.set_cons_zero, List.set_cons_succ, i64_w, i32_w]
        rfl
      exact norm_ (by first | (simp only [putAll, Act.put, List.setIfInBounds_toArray, List.set_cons_zero, List.set_cons_succ]; done) | (simp only [putAll, Act.put, List.setIfInBounds_toArray, List.set_cons_zero, List.set_cons_succ]; rfl)) (hJ19_25_27 ⟨s19, s25, s27⟩ _ HQ.out)
  intro hJ25_27
  refine join_ (σ := Value) 8 joins1.m77 (fun s_ => [(39, s_)]) (fun s_ w' => JQ w1 w' (q4 (.slice none 0 0) (.slice none 0 0) (.slice none 0 0) s_) (q4 [] [] [] (List.replicate m1 0)) (.bool false) ∧ (True) ∧ (True)) ?_ ?_
  · rintro s25 w' hF_
    have HQ := Aside0.mk (show JQ w1 w' (q4 (.slice none 0 0) (.slice none 0 0) (.slice none 0 0) s25) (q4 [] [] [] (List.replicate m1 0)) (.bool false) ∧ (True) ∧ (True) from hF_)
    clear hF_ hHeld
    refine norm_ (a' := ?_) ?_ ?_
    rotate_left
    · simp only [putAll, Act.put, List.setIfInBounds_toArray, List.set_cons_zero, List.set_cons_succ]
      rfl
    refine four_ (i := 0) (j := 7) (k := 19) (m := 27) (Ni := some 14) (Nj := some 21) (Nk := some 33) (Nm := some 7) joins1.m61 joins1.m69 joins1.m73 joins1.m76 rfl rfl rfl rfl rfl rfl rfl rfl (four_of HT_.out (by kernel_rfl)) (by decide) (by decide) (by decide) (by decide) (fun K hK => ?_) (fun K hK => ?_) (fun K hK => ?_) (fun K hK => ?_)
    · skip
      refine lit_ 0 (by decide) HQ.out.1 (by rfl) rfl (by rfl) ?_
      intro s0 wn ho
      have n0_ := Aside0.mk (And.intro (ho.congr (upd0 _ _ _ _ _) (upd0 _ _ _ _ _)) HQ.out.2)
      clear HQ ho
      have HQ := n0_
      clear n0_
      refine hK.out _ _ (HS.out _ HQ.out.1.bel) (fun hHeld => ?_)
      clear hK K
      refine norm_ (a' := ?_) ?_ ?_
      rotate_left
      · show Act.put _ (some 14) _ = _
        simp only [Act.put, List.setIfInBounds_toArray, List.set_cons_zero, List.set_cons_succ, i64_w, i32_w]
        rfl
      exact norm_ (by first | (simp only [putAll, Act.put, List.setIfInBounds_toArray, List.set_cons_zero, List.set_cons_succ]; done) | (simp only [putAll, Act.put, List.setIfInBounds_toArray, List.set_cons_zero, List.set_cons_succ]; rfl)) (hJ0_25 ⟨s0, s25⟩ _ HQ.out)
    · skip
      refine lit_ 1 (by decide) HQ.out.1 (by rfl) rfl (by rfl) ?_
      intro s7 wn ho
      have n0_ := Aside0.mk (And.intro (ho.congr (upd1 _ _ _ _ _) (upd1 _ _ _ _ _)) HQ.out.2)
      clear HQ ho
      have HQ := n0_
      clear n0_
      refine hK.out _ _ (HS.out _ HQ.out.1.bel) (fun hHeld => ?_)
      clear hK K
      refine norm_ (a' := ?_) ?_ ?_
      rotate_left
      · show Act.put _ (some 21) _ = _
        simp only [Act.put, List.setIfInBounds_toArray, List.set_cons_zero, List.set_cons_succ, i64_w, i32_w]
        rfl
      exact norm_ (by first | (simp only [putAll, Act.put, List.setIfInBounds_toArray, List.set_cons_zero, List.set_cons_succ]; done) | (simp only [putAll, Act.put, List.setIfInBounds_toArray, List.set_cons_zero, List.set_cons_succ]; rfl)) (hJ7_25 ⟨s7, s25⟩ _ HQ.out)
    · skip
      refine mk_ (m := m0) 2 (by decide) HQ.out.1 hm0k (by rfl) rfl rfl (by first | rfl | (go_simp; done)) ?_
      intro s19 wn ho
      have n0_ := Aside0.mk (And.intro (ho.congr (upd2 _ _ _ _ _) (upd2 _ _ _ _ _)) HQ.out.2)
      clear HQ ho
      have HQ := n0_
      clear n0_
      refine hK.out _ _ (HS.out _ HQ.out.1.bel) (fun hHeld => ?_)
      clear hK K
      refine norm_ (a' := ?_) ?_ ?_
      rotate_left
      · show Act.put _ (some 33) _ = _
        simp only [Act.put, List.setIfInBounds_toArray, List.set_cons_zero, List.set_cons_succ, i64_w, i32_w]
        rfl
      exact norm_ (by first | (simp only [putAll, Act.put, List.setIfInBounds_toArray, List.set_cons_zero, List.set_cons_succ]; done) | (simp only [putAll, Act.put, List.setIfInBounds_toArray, List.set_cons_zero, List.set_cons_succ]; rfl)) (hJ19_25 ⟨s19, s25⟩ _ HQ.out)
    · skip
      refine alloc_ HQ.out.1 (by rfl) rfl (by rfl) ?_
      intro s27 wn ho hp
      have n0_ := Aside0.mk (And.intro ho (And.intro HQ.out.2.1 hp))
      clear HQ ho hp
      have HQ := n0_
      clear n0_
      refine hK.out _ _ (HS.out _ HQ.out.1.bel) (fun hHeld => ?_)
      clear hK K
      refine norm_ (a' := ?_) ?_ ?_
      rotate_left
      · show Act.put _ (some 7) _ = _
        simp only [Act.put, List.setIfInBounds_toArray, List.set_cons_zero, List.set_cons_succ, i64_w, i32_w]
        rfl
      exact norm_ (by first | (simp only [putAll, Act.put, List.setIfInBounds_toArray, List.set_cons_zero, List.set_cons_succ]; done) | (simp only [putAll, Act.put, List.setIfInBounds_toArray, List.set_cons_zero, List.set_cons_succ]; rfl)) (hJ25_27 ⟨s25, s27⟩ _ HQ.out)
  intro hJ25
  refine join_ (σ := Value) 8 joins1.m78 (fun s_ => [(7, s_)]) (fun s_ w' => JQ w1 w' (q4 (.slice none 0 0) (.slice none 0 0) (.slice none 0 0) (.slice none 0 0)) (q4 [] [] [] []) s_ ∧ (True) ∧ (∃ b7, s_ = Value.pointer (some ⟨b7, 0, none⟩))) ?_ ?_
  · rintro s27 w' hF_
    have HQ := Aside0.mk (show JQ w1 w' (q4 (.slice none 0 0) (.slice none 0 0) (.slice none 0 0) (.slice none 0 0)) (q4 [] [] [] []) s27 ∧ (True) ∧ (∃ b7, s27 = Value.pointer (some ⟨b7, 0, none⟩)) from hF_)
    clear hF_ hHeld
    refine norm_ (a' := ?_) ?_ ?_
    rotate_left
    · simp only [putAll, Act.put, List.setIfInBounds_toArray, List.set_cons_zero, List.set_cons_succ]
      rfl
    refine four_ (i := 0) (j := 7) (k := 19) (m := 25) (Ni := some 14) (Nj := some 21) (Nk := some 33) (Nm := some 39) joins1.m62 joins1.m70 joins1.m74 joins1.m76 rfl rfl rfl rfl rfl rfl rfl rfl (four_of HT_.out (by kernel_rfl)) (by decide) (by decide) (by decide) (by decide) (fun K hK => ?_) (fun K hK => ?_) (fun K hK => ?_) (fun K hK => ?_)
    · skip
      refine lit_ 0 (by decide) HQ.out.1 (by rfl) rfl (by rfl) ?_
      intro s0 wn ho
      have n0_ := Aside0.mk (And.intro (ho.congr (upd0 _ _ _ _ _) (upd0 _ _ _ _ _)) HQ.out.2)
      clear HQ ho
      have HQ := n0_
      clear n0_
      refine hK.out _ _ (HS.out _ HQ.out.1.bel) (fun hHeld => ?_)
      clear hK K
      refine norm_ (a' := ?_) ?_ ?_
      rotate_left
      · show Act.put _ (some 14) _ = _
        simp only [Act.put, List.setIfInBounds_toArray, List.set_cons_zero, List.set_cons_succ, i64_w, i32_w]
        rfl
      exact norm_ (by first | (simp only [putAll, Act.put, List.setIfInBounds_toArray, List.set_cons_zero, List.set_cons_succ]; done) | (simp only [putAll, Act.put, List.setIfInBounds_toArray, List.set_cons_zero, List.set_cons_succ]; rfl)) (hJ0_27 ⟨s0, s27⟩ _ HQ.out)
    · skip
      refine lit_ 1 (by decide) HQ.out.1 (by rfl) rfl (by rfl) ?_
      intro s7 wn ho
      have n0_ := Aside0.mk (And.intro (ho.congr (upd1 _ _ _ _ _) (upd1 _ _ _ _ _)) HQ.out.2)
      clear HQ ho
      have HQ := n0_
      clear n0_
      refine hK.out _ _ (HS.out _ HQ.out.1.bel) (fun hHeld => ?_)
      clear hK K
      refine norm_ (a' := ?_) ?_ ?_
      rotate_left
      · show Act.put _ (some 21) _ = _
        simp only [Act.put, List.setIfInBounds_toArray, List.set_cons_zero, List.set_cons_succ, i64_w, i32_w]
        rfl
      exact norm_ (by first | (simp only [putAll, Act.put, List.setIfInBounds_toArray, List.set_cons_zero, List.set_cons_succ]; done) | (simp only [putAll, Act.put, List.setIfInBounds_toArray, List.set_cons_zero, List.set_cons_succ]; rfl)) (hJ7_27 ⟨s7, s27⟩ _ HQ.out)
    · skip
      refine mk_ (m := m0) 2 (by decide) HQ.out.1 hm0k (by rfl) rfl rfl (by first | rfl | (go_simp; done)) ?_
      intro s19 wn ho
      have n0_ := Aside0.mk (And.intro (ho.congr (upd2 _ _ _ _ _) (upd2 _ _ _ _ _)) HQ.out.2)
      clear HQ ho
      have HQ := n0_
      clear n0_
      refine hK.out _ _ (HS.out _ HQ.out.1.bel) (fun hHeld => ?_)
      clear hK K
      refine norm_ (a' := ?_) ?_ ?_
      rotate_left
      · show Act.put _ (some 33) _ = _
        simp only [Act.put, List.setIfInBounds_toArray, List.set_cons_zero, List.set_cons_succ, i64_w, i32_w]
        rfl
      exact norm_ (by first | (simp only [putAll, Act.put, List.setIfInBounds_toArray, List.set_cons_zero, List.set_cons_succ]; done) | (simp only [putAll, Act.put, List.setIfInBounds_toArray, List.set_cons_zero, List.set_cons_succ]; rfl)) (hJ19_27 ⟨s19, s27⟩ _ HQ.out)
    · skip
      refine mk_ (m := m1) 3 (by decide) HQ.out.1 hm1k (by rfl) rfl rfl (by first | rfl | (go_simp; done)) ?_
      intro s25 wn ho
      have n0_ := Aside0.mk (And.intro (ho.congr (upd3 _ _ _ _ _) (upd3 _ _ _ _ _)) HQ.out.2)
      clear HQ ho
      have HQ := n0_
      clear n0_
      refine hK.out _ _ (HS.out _ HQ.out.1.bel) (fun hHeld => ?_)
      clear hK K
      refine norm_ (a' := ?_) ?_ ?_
      rotate_left
      · show Act.put _ (some 39) _ = _
        simp only [Act.put, List.setIfInBounds_toArray, List.set_cons_zero, List.set_cons_succ, i64_w, i32_w]
        rfl
      exact norm_ (by first | (simp only [putAll, Act.put, List.setIfInBounds_toArray, List.set_cons_zero, List.set_cons_succ]; done) | (simp only [putAll, Act.put, List.setIfInBounds_toArray, List.set_cons_zero, List.set_cons_succ]; rfl)) (hJ25_27 ⟨s25, s27⟩ _ HQ.out)
  intro hJ27
  refine five_ (i := 0) (j := 7) (k := 19) (m := 25) (n := 27) (Ni := some 14) (Nj := some 21) (Nk := some 33) (Nm := some 39) (Nn := some 7) joins1.m63 joins1.m71 joins1.m75 joins1.m77 joins1.m78 rfl rfl rfl rfl rfl rfl rfl rfl rfl rfl (five_of HT_.out (by kernel_rfl)) (by decide) (by decide) (by decide) (by decide) (by decide) (fun K hK => ?_) (fun K hK => ?_) (fun K hK => ?_) (fun K hK => ?_) (fun K hK => ?_)
  · skip
    refine lit_ 0 (by decide) HQ.out.1 (by rfl) rfl (by rfl) ?_
    intro s0 wn ho
    have n0_ := Aside0.mk (And.intro (ho.congr (upd0 _ _ _ _ _) (upd0 _ _ _ _ _)) HQ.out.2)
    clear HQ ho
    have HQ := n0_
    clear n0_
    refine hK.out _ _ (HS.out _ HQ.out.1.bel) (fun hHeld => ?_)
    clear hK K
    refine norm_ (a' := ?_) ?_ ?_
    rotate_left
    · show Act.put _ (some 14) _ = _
      simp only [Act.put, List.setIfInBounds_toArray, List.set_cons_zero, List.set_cons_succ, i64_w, i32_w]
      rfl
    exact norm_ (by first | (simp only [putAll, Act.put, List.setIfInBounds_toArray, List.set_cons_zero, List.set_cons_succ]; done) | (simp only [putAll, Act.put, List.setIfInBounds_toArray, List.set_cons_zero, List.set_cons_succ]; rfl)) (hJ0 s0 _ HQ.out)
  · skip
    refine lit_ 1 (by decide) HQ.out.1 (by rfl) rfl (by rfl) ?_
    intro s7 wn ho
    have n0_ := Aside0.mk (And.intro (ho.congr (upd1 _ _ _ _ _) (upd1 _ _ _ _ _)) HQ.out.2)
    clear HQ ho
    have HQ := n0_
    clear n0_
    refine hK.out _ _ (HS.out _ HQ.out.1.bel) (fun hHeld => ?_)
    clear hK K
    refine norm_ (a' := ?_) ?_ ?_
    rotate_left
    · show Act.put _ (some 21) _ = _
      simp only [Act.put, List.setIfInBounds_toArray, List.set_cons_zero, List.set_cons_succ, i64_w, i32_w]
      rfl
    exact norm_ (by first | (simp only [putAll, Act.put, List.setIfInBounds_toArray, List.set_cons_zero, List.set_cons_succ]; done) | (simp only [putAll, Act.put, List.setIfInBounds_toArray, List.set_cons_zero, List.set_cons_succ]; rfl)) (hJ7 s7 _ HQ.out)
  · skip
    refine mk_ (m := m0) 2 (by decide) HQ.out.1 hm0k (by rfl) rfl rfl (by first | rfl | (go_simp; done)) ?_
    intro s19 wn ho
    have n0_ := Aside0.mk (And.intro (ho.congr (upd2 _ _ _ _ _) (upd2 _ _ _ _ _)) HQ.out.2)
    clear HQ ho
    have HQ := n0_
    clear n0_
    refine hK.out _ _ (HS.out _ HQ.out.1.bel) (fun hHeld => ?_)
    clear hK K
    refine norm_ (a' := ?_) ?_ ?_
    rotate_left
    · show Act.put _ (some 33) _ = _
      simp only [Act.put, List.setIfInBounds_toArray, List.set_cons_zero, List.set_cons_succ, i64_w, i32_w]
      rfl
    exact norm_ (by first | (simp only [putAll, Act.put, List.setIfInBounds_toArray, List.set_cons_zero, List.set_cons_succ]; done) | (simp only [putAll, Act.put, List.setIfInBounds_toArray, List.set_cons_zero, List.set_cons_succ]; rfl)) (hJ19 s19 _ HQ.out)
  · skip
    refine mk_ (m := m1) 3 (by decide) HQ.out.1 hm1k (by rfl) rfl rfl (by first | rfl | (go_simp; done)) ?_
    intro s25 wn ho
    have n0_ := Aside0.mk (And.intro (ho.congr (upd3 _ _ _ _ _) (upd3 _ _ _ _ _)) HQ.out.2)
    clear HQ ho
    have HQ := n0_
    clear n0_
    refine hK.out _ _ (HS.out _ HQ.out.1.bel) (fun hHeld => ?_)
    clear hK K
    refine norm_ (a' := ?_) ?_ ?_
    rotate_left
    · show Act.put _ (some 39) _ = _
      simp only [Act.put, List.setIfInBounds_toArray, List.set_cons_zero, List.set_cons_succ, i64_w, i32_w]
      rfl
    exact norm_ (by first | (simp only [putAll, Act.put, List.setIfInBounds_toArray, List.set_cons_zero, List.set_cons_succ]; done) | (simp only [putAll, Act.put, List.setIfInBounds_toArray, List.set_cons_zero, List.set_cons_succ]; rfl)) (hJ25 s25 _ HQ.out)
  · skip
    refine alloc_ HQ.out.1 (by rfl) rfl (by rfl) ?_
    intro s27 wn ho hp
    have n0_ := Aside0.mk (And.intro ho (And.intro HQ.out.2.1 hp))
    clear HQ ho hp
    have HQ := n0_
    clear n0_
    refine hK.out _ _ (HS.out _ HQ.out.1.bel) (fun hHeld => ?_)
    clear hK K
    refine norm_ (a' := ?_) ?_ ?_
    rotate_left
    · show Act.put _ (some 7) _ = _
      simp only [Act.put, List.setIfInBounds_toArray, List.set_cons_zero, List.set_cons_succ, i64_w, i32_w]
      rfl
    exact norm_ (by first | (simp only [putAll, Act.put, List.setIfInBounds_toArray, List.set_cons_zero, List.set_cons_succ]; done) | (simp only [putAll, Act.put, List.setIfInBounds_toArray, List.set_cons_zero, List.set_cons_succ]; rfl)) (hJ27 s27 _ HQ.out)
end Go.Proofs.Ytmajbcglpcagoaa.X
