/- The law JacSums returns true, whatever the numbers. -/
import Derived.Test.YtdlinjijccnaeaaJqS1
import Derived.Test.YtdlinjijccnaeaaJqS3
namespace Go.Proofs.Ytdlinjijccnaeaa
open Go
set_option linter.unusedVariables false
set_option linter.unusedSimpArgs false
set_option maxRecDepth 100000

/-! numbers cut off -/
def CutOK (c : Nat) : Prop := ∃ z, (ciO c z).ok Try.prog
theorem cut_zero : CutOK 0 := ⟨0, by show convV Try.prog 27 3 (.float .f64 0) = some (.int .i64 0); kernel_rfl⟩
theorem cut8_m32 : CutOK (fop .quo .f64 (Fz (-32)) 4620693217682128896) := ⟨(-32 : Int).tdiv 8, by show convV Try.prog 27 3 (.float .f64 (fop .quo .f64 (Fz (-32)) 4620693217682128896)) = some (.int .i64 ((-32 : Int).tdiv 8)); kernel_rfl⟩
theorem cut8_m31 : CutOK (fop .quo .f64 (Fz (-31)) 4620693217682128896) := ⟨(-31 : Int).tdiv 8, by show convV Try.prog 27 3 (.float .f64 (fop .quo .f64 (Fz (-31)) 4620693217682128896)) = some (.int .i64 ((-31 : Int).tdiv 8)); kernel_rfl⟩
theorem cut8_m30 : CutOK (fop .quo .f64 (Fz (-30)) 4620693217682128896) := ⟨(-30 : Int).tdiv 8, by show convV Try.prog 27 3 (.float .f64 (fop .quo .f64 (Fz (-30)) 4620693217682128896)) = some (.int .i64 ((-30 : Int).tdiv 8)); kernel_rfl⟩
theorem cut8_m29 : CutOK (fop .quo .f64 (Fz (-29)) 4620693217682128896) := ⟨(-29 : Int).tdiv 8, by show convV Try.prog 27 3 (.float .f64 (fop .quo .f64 (Fz (-29)) 4620693217682128896)) = some (.int .i64 ((-29 : Int).tdiv 8)); kernel_rfl⟩
theorem cut8_m28 : CutOK (fop .quo .f64 (Fz (-28)) 4620693217682128896) := ⟨(-28 : Int).tdiv 8, by show convV Try.prog 27 3 (.float .f64 (fop .quo .f64 (Fz (-28)) 4620693217682128896)) = some (.int .i64 ((-28 : Int).tdiv 8)); kernel_rfl⟩
theorem cut8_m27 : CutOK (fop .quo .f64 (Fz (-27)) 4620693217682128896) := ⟨(-27 : Int).tdiv 8, by show convV Try.prog 27 3 (.float .f64 (fop .quo .f64 (Fz (-27)) 4620693217682128896)) = some (.int .i64 ((-27 : Int).tdiv 8)); kernel_rfl⟩
theorem cut8_m26 : CutOK (fop .quo .f64 (Fz (-26)) 4620693217682128896) := ⟨(-26 : Int).tdiv 8, by show convV Try.prog 27 3 (.float .f64 (fop .quo .f64 (Fz (-26)) 4620693217682128896)) = some (.int .i64 ((-26 : Int).tdiv 8)); kernel_rfl⟩
theorem cut8_m25 : CutOK (fop .quo .f64 (Fz (-25)) 4620693217682128896) := ⟨(-25 : Int).tdiv 8, by show convV Try.prog 27 3 (.float .f64 (fop .quo .f64 (Fz (-25)) 4620693217682128896)) = some (.int .i64 ((-25 : Int).tdiv 8)); kernel_rfl⟩
theorem cut8_m24 : CutOK (fop .quo .f64 (Fz (-24)) 4620693217682128896) := ⟨(-24 : Int).tdiv 8, by show convV Try.prog 27 3 (.float .f64 (fop .quo .f64 (Fz (-24)) 4620693217682128896)) = some (.int .i64 ((-24 : Int).tdiv 8)); kernel_rfl⟩
theorem cut8_m23 : CutOK (fop .quo .f64 (Fz (-23)) 4620693217682128896) := ⟨(-23 : Int).tdiv 8, by show convV Try.prog 27 3 (.float .f64 (fop .quo .f64 (Fz (-23)) 4620693217682128896)) = some (.int .i64 ((-23 : Int).tdiv 8)); kernel_rfl⟩
theorem cut8_m22 : CutOK (fop .quo .f64 (Fz (-22)) 4620693217682128896) := ⟨(-22 : Int).tdiv 8, by show convV Try.prog 27 3 (.float .f64 (fop .quo .f64 (Fz (-22)) 4620693217682128896)) = some (.int .i64 ((-22 : Int).tdiv 8)); kernel_rfl⟩
theorem cut8_m21 : CutOK (fop .quo .f64 (Fz (-21)) 4620693217682128896) := ⟨(-21 : Int).tdiv 8, by show convV Try.prog 27 3 (.float .f64 (fop .quo .f64 (Fz (-21)) 4620693217682128896)) = some (.int .i64 ((-21 : Int).tdiv 8)); kernel_rfl⟩
theorem cut8_m20 : CutOK (fop .quo .f64 (Fz (-20)) 4620693217682128896) := ⟨(-20 : Int).tdiv 8, by show convV Try.prog 27 3 (.float .f64 (fop .quo .f64 (Fz (-20)) 4620693217682128896)) = some (.int .i64 ((-20 : Int).tdiv 8)); kernel_rfl⟩
theorem cut8_m19 : CutOK (fop .quo .f64 (Fz (-19)) 4620693217682128896) := ⟨(-19 : Int).tdiv 8, by show convV Try.prog 27 3 (.float .f64 (fop .quo .f64 (Fz (-19)) 4620693217682128896)) = some (.int .i64 ((-19 : Int).tdiv 8)); kernel_rfl⟩
theorem cut8_m18 : CutOK (fop .quo .f64 (Fz (-18)) 4620693217682128896) := ⟨(-18 : Int).tdiv 8, by show convV Try.prog 27 3 (.float .f64 (fop .quo .f64 (Fz (-18)) 4620693217682128896)) = some (.int .i64 ((-18 : Int).tdiv 8)); kernel_rfl⟩
theorem cut8_m17 : CutOK (fop .quo .f64 (Fz (-17)) 4620693217682128896) := ⟨(-17 : Int).tdiv 8, by show convV Try.prog 27 3 (.float .f64 (fop .quo .f64 (Fz (-17)) 4620693217682128896)) = some (.int .i64 ((-17 : Int).tdiv 8)); kernel_rfl⟩
theorem cut8_m16 : CutOK (fop .quo .f64 (Fz (-16)) 4620693217682128896) := ⟨(-16 : Int).tdiv 8, by show convV Try.prog 27 3 (.float .f64 (fop .quo .f64 (Fz (-16)) 4620693217682128896)) = some (.int .i64 ((-16 : Int).tdiv 8)); kernel_rfl⟩
theorem cut8_m15 : CutOK (fop .quo .f64 (Fz (-15)) 4620693217682128896) := ⟨(-15 : Int).tdiv 8, by show convV Try.prog 27 3 (.float .f64 (fop .quo .f64 (Fz (-15)) 4620693217682128896)) = some (.int .i64 ((-15 : Int).tdiv 8)); kernel_rfl⟩
theorem cut8_m14 : CutOK (fop .quo .f64 (Fz (-14)) 4620693217682128896) := ⟨(-14 : Int).tdiv 8, by show convV Try.prog 27 3 (.float .f64 (fop .quo .f64 (Fz (-14)) 4620693217682128896)) = some (.int .i64 ((-14 : Int).tdiv 8)); kernel_rfl⟩
theorem cut8_m13 : CutOK (fop .quo .f64 (Fz (-13)) 4620693217682128896) := ⟨(-13 : Int).tdiv 8, by show convV Try.prog 27 3 (.float .f64 (fop .quo .f64 (Fz (-13)) 4620693217682128896)) = some (.int .i64 ((-13 : Int).tdiv 8)); kernel_rfl⟩
theorem cut8_m12 : CutOK (fop .quo .f64 (Fz (-12)) 4620693217682128896) := ⟨(-12 : Int).tdiv 8, by show convV Try.prog 27 3 (.float .f64 (fop .quo .f64 (Fz (-12)) 4620693217682128896)) = some (.int .i64 ((-12 : Int).tdiv 8)); kernel_rfl⟩
theorem cut8_m11 : CutOK (fop .quo .f64 (Fz (-11)) 4620693217682128896) := ⟨(-11 : Int).tdiv 8, by show convV Try.prog 27 3 (.float .f64 (fop .quo .f64 (Fz (-11)) 4620693217682128896)) = some (.int .i64 ((-11 : Int).tdiv 8)); kernel_rfl⟩
theorem cut8_m10 : CutOK (fop .quo .f64 (Fz (-10)) 4620693217682128896) := ⟨(-10 : Int).tdiv 8, by show convV Try.prog 27 3 (.float .f64 (fop .quo .f64 (Fz (-10)) 4620693217682128896)) = some (.int .i64 ((-10 : Int).tdiv 8)); kernel_rfl⟩
theorem cut8_m9 : CutOK (fop .quo .f64 (Fz (-9)) 4620693217682128896) := ⟨(-9 : Int).tdiv 8, by show convV Try.prog 27 3 (.float .f64 (fop .quo .f64 (Fz (-9)) 4620693217682128896)) = some (.int .i64 ((-9 : Int).tdiv 8)); kernel_rfl⟩
theorem cut8_m8 : CutOK (fop .quo .f64 (Fz (-8)) 4620693217682128896) := ⟨(-8 : Int).tdiv 8, by show convV Try.prog 27 3 (.float .f64 (fop .quo .f64 (Fz (-8)) 4620693217682128896)) = some (.int .i64 ((-8 : Int).tdiv 8)); kernel_rfl⟩
theorem cut8_m7 : CutOK (fop .quo .f64 (Fz (-7)) 4620693217682128896) := ⟨(-7 : Int).tdiv 8, by show convV Try.prog 27 3 (.float .f64 (fop .quo .f64 (Fz (-7)) 4620693217682128896)) = some (.int .i64 ((-7 : Int).tdiv 8)); kernel_rfl⟩
theorem cut8_m6 : CutOK (fop .quo .f64 (Fz (-6)) 4620693217682128896) := ⟨(-6 : Int).tdiv 8, by show convV Try.prog 27 3 (.float .f64 (fop .quo .f64 (Fz (-6)) 4620693217682128896)) = some (.int .i64 ((-6 : Int).tdiv 8)); kernel_rfl⟩
theorem cut8_m5 : CutOK (fop .quo .f64 (Fz (-5)) 4620693217682128896) := ⟨(-5 : Int).tdiv 8, by show convV Try.prog 27 3 (.float .f64 (fop .quo .f64 (Fz (-5)) 4620693217682128896)) = some (.int .i64 ((-5 : Int).tdiv 8)); kernel_rfl⟩
theorem cut8_m4 : CutOK (fop .quo .f64 (Fz (-4)) 4620693217682128896) := ⟨(-4 : Int).tdiv 8, by show convV Try.prog 27 3 (.float .f64 (fop .quo .f64 (Fz (-4)) 4620693217682128896)) = some (.int .i64 ((-4 : Int).tdiv 8)); kernel_rfl⟩
theorem cut8_m3 : CutOK (fop .quo .f64 (Fz (-3)) 4620693217682128896) := ⟨(-3 : Int).tdiv 8, by show convV Try.prog 27 3 (.float .f64 (fop .quo .f64 (Fz (-3)) 4620693217682128896)) = some (.int .i64 ((-3 : Int).tdiv 8)); kernel_rfl⟩
theorem cut8_m2 : CutOK (fop .quo .f64 (Fz (-2)) 4620693217682128896) := ⟨(-2 : Int).tdiv 8, by show convV Try.prog 27 3 (.float .f64 (fop .quo .f64 (Fz (-2)) 4620693217682128896)) = some (.int .i64 ((-2 : Int).tdiv 8)); kernel_rfl⟩
theorem cut8_m1 : CutOK (fop .quo .f64 (Fz (-1)) 4620693217682128896) := ⟨(-1 : Int).tdiv 8, by show convV Try.prog 27 3 (.float .f64 (fop .quo .f64 (Fz (-1)) 4620693217682128896)) = some (.int .i64 ((-1 : Int).tdiv 8)); kernel_rfl⟩
theorem cut8_0 : CutOK (fop .quo .f64 (Fz (0)) 4620693217682128896) := ⟨(0 : Int).tdiv 8, by show convV Try.prog 27 3 (.float .f64 (fop .quo .f64 (Fz (0)) 4620693217682128896)) = some (.int .i64 ((0 : Int).tdiv 8)); kernel_rfl⟩
theorem cut8_1 : CutOK (fop .quo .f64 (Fz (1)) 4620693217682128896) := ⟨(1 : Int).tdiv 8, by show convV Try.prog 27 3 (.float .f64 (fop .quo .f64 (Fz (1)) 4620693217682128896)) = some (.int .i64 ((1 : Int).tdiv 8)); kernel_rfl⟩
theorem cut8_2 : CutOK (fop .quo .f64 (Fz (2)) 4620693217682128896) := ⟨(2 : Int).tdiv 8, by show convV Try.prog 27 3 (.float .f64 (fop .quo .f64 (Fz (2)) 4620693217682128896)) = some (.int .i64 ((2 : Int).tdiv 8)); kernel_rfl⟩
theorem cut8_3 : CutOK (fop .quo .f64 (Fz (3)) 4620693217682128896) := ⟨(3 : Int).tdiv 8, by show convV Try.prog 27 3 (.float .f64 (fop .quo .f64 (Fz (3)) 4620693217682128896)) = some (.int .i64 ((3 : Int).tdiv 8)); kernel_rfl⟩
theorem cut8_4 : CutOK (fop .quo .f64 (Fz (4)) 4620693217682128896) := ⟨(4 : Int).tdiv 8, by show convV Try.prog 27 3 (.float .f64 (fop .quo .f64 (Fz (4)) 4620693217682128896)) = some (.int .i64 ((4 : Int).tdiv 8)); kernel_rfl⟩
theorem cut8_5 : CutOK (fop .quo .f64 (Fz (5)) 4620693217682128896) := ⟨(5 : Int).tdiv 8, by show convV Try.prog 27 3 (.float .f64 (fop .quo .f64 (Fz (5)) 4620693217682128896)) = some (.int .i64 ((5 : Int).tdiv 8)); kernel_rfl⟩
theorem cut8_6 : CutOK (fop .quo .f64 (Fz (6)) 4620693217682128896) := ⟨(6 : Int).tdiv 8, by show convV Try.prog 27 3 (.float .f64 (fop .quo .f64 (Fz (6)) 4620693217682128896)) = some (.int .i64 ((6 : Int).tdiv 8)); kernel_rfl⟩
theorem cut8_7 : CutOK (fop .quo .f64 (Fz (7)) 4620693217682128896) := ⟨(7 : Int).tdiv 8, by show convV Try.prog 27 3 (.float .f64 (fop .quo .f64 (Fz (7)) 4620693217682128896)) = some (.int .i64 ((7 : Int).tdiv 8)); kernel_rfl⟩
theorem cut8_8 : CutOK (fop .quo .f64 (Fz (8)) 4620693217682128896) := ⟨(8 : Int).tdiv 8, by show convV Try.prog 27 3 (.float .f64 (fop .quo .f64 (Fz (8)) 4620693217682128896)) = some (.int .i64 ((8 : Int).tdiv 8)); kernel_rfl⟩
theorem cut8_9 : CutOK (fop .quo .f64 (Fz (9)) 4620693217682128896) := ⟨(9 : Int).tdiv 8, by show convV Try.prog 27 3 (.float .f64 (fop .quo .f64 (Fz (9)) 4620693217682128896)) = some (.int .i64 ((9 : Int).tdiv 8)); kernel_rfl⟩
theorem cut8_10 : CutOK (fop .quo .f64 (Fz (10)) 4620693217682128896) := ⟨(10 : Int).tdiv 8, by show convV Try.prog 27 3 (.float .f64 (fop .quo .f64 (Fz (10)) 4620693217682128896)) = some (.int .i64 ((10 : Int).tdiv 8)); kernel_rfl⟩
theorem cut8_11 : CutOK (fop .quo .f64 (Fz (11)) 4620693217682128896) := ⟨(11 : Int).tdiv 8, by show convV Try.prog 27 3 (.float .f64 (fop .quo .f64 (Fz (11)) 4620693217682128896)) = some (.int .i64 ((11 : Int).tdiv 8)); kernel_rfl⟩
theorem cut8_12 : CutOK (fop .quo .f64 (Fz (12)) 4620693217682128896) := ⟨(12 : Int).tdiv 8, by show convV Try.prog 27 3 (.float .f64 (fop .quo .f64 (Fz (12)) 4620693217682128896)) = some (.int .i64 ((12 : Int).tdiv 8)); kernel_rfl⟩
theorem cut8_13 : CutOK (fop .quo .f64 (Fz (13)) 4620693217682128896) := ⟨(13 : Int).tdiv 8, by show convV Try.prog 27 3 (.float .f64 (fop .quo .f64 (Fz (13)) 4620693217682128896)) = some (.int .i64 ((13 : Int).tdiv 8)); kernel_rfl⟩
theorem cut8_14 : CutOK (fop .quo .f64 (Fz (14)) 4620693217682128896) := ⟨(14 : Int).tdiv 8, by show convV Try.prog 27 3 (.float .f64 (fop .quo .f64 (Fz (14)) 4620693217682128896)) = some (.int .i64 ((14 : Int).tdiv 8)); kernel_rfl⟩
theorem cut8_15 : CutOK (fop .quo .f64 (Fz (15)) 4620693217682128896) := ⟨(15 : Int).tdiv 8, by show convV Try.prog 27 3 (.float .f64 (fop .quo .f64 (Fz (15)) 4620693217682128896)) = some (.int .i64 ((15 : Int).tdiv 8)); kernel_rfl⟩
theorem cut8_16 : CutOK (fop .quo .f64 (Fz (16)) 4620693217682128896) := ⟨(16 : Int).tdiv 8, by show convV Try.prog 27 3 (.float .f64 (fop .quo .f64 (Fz (16)) 4620693217682128896)) = some (.int .i64 ((16 : Int).tdiv 8)); kernel_rfl⟩
theorem cut8_17 : CutOK (fop .quo .f64 (Fz (17)) 4620693217682128896) := ⟨(17 : Int).tdiv 8, by show convV Try.prog 27 3 (.float .f64 (fop .quo .f64 (Fz (17)) 4620693217682128896)) = some (.int .i64 ((17 : Int).tdiv 8)); kernel_rfl⟩
theorem cut8_18 : CutOK (fop .quo .f64 (Fz (18)) 4620693217682128896) := ⟨(18 : Int).tdiv 8, by show convV Try.prog 27 3 (.float .f64 (fop .quo .f64 (Fz (18)) 4620693217682128896)) = some (.int .i64 ((18 : Int).tdiv 8)); kernel_rfl⟩
theorem cut8_19 : CutOK (fop .quo .f64 (Fz (19)) 4620693217682128896) := ⟨(19 : Int).tdiv 8, by show convV Try.prog 27 3 (.float .f64 (fop .quo .f64 (Fz (19)) 4620693217682128896)) = some (.int .i64 ((19 : Int).tdiv 8)); kernel_rfl⟩
theorem cut8_20 : CutOK (fop .quo .f64 (Fz (20)) 4620693217682128896) := ⟨(20 : Int).tdiv 8, by show convV Try.prog 27 3 (.float .f64 (fop .quo .f64 (Fz (20)) 4620693217682128896)) = some (.int .i64 ((20 : Int).tdiv 8)); kernel_rfl⟩
theorem cut8_21 : CutOK (fop .quo .f64 (Fz (21)) 4620693217682128896) := ⟨(21 : Int).tdiv 8, by show convV Try.prog 27 3 (.float .f64 (fop .quo .f64 (Fz (21)) 4620693217682128896)) = some (.int .i64 ((21 : Int).tdiv 8)); kernel_rfl⟩
theorem cut8_22 : CutOK (fop .quo .f64 (Fz (22)) 4620693217682128896) := ⟨(22 : Int).tdiv 8, by show convV Try.prog 27 3 (.float .f64 (fop .quo .f64 (Fz (22)) 4620693217682128896)) = some (.int .i64 ((22 : Int).tdiv 8)); kernel_rfl⟩
theorem cut8_23 : CutOK (fop .quo .f64 (Fz (23)) 4620693217682128896) := ⟨(23 : Int).tdiv 8, by show convV Try.prog 27 3 (.float .f64 (fop .quo .f64 (Fz (23)) 4620693217682128896)) = some (.int .i64 ((23 : Int).tdiv 8)); kernel_rfl⟩
theorem cut8_24 : CutOK (fop .quo .f64 (Fz (24)) 4620693217682128896) := ⟨(24 : Int).tdiv 8, by show convV Try.prog 27 3 (.float .f64 (fop .quo .f64 (Fz (24)) 4620693217682128896)) = some (.int .i64 ((24 : Int).tdiv 8)); kernel_rfl⟩
theorem cut8_25 : CutOK (fop .quo .f64 (Fz (25)) 4620693217682128896) := ⟨(25 : Int).tdiv 8, by show convV Try.prog 27 3 (.float .f64 (fop .quo .f64 (Fz (25)) 4620693217682128896)) = some (.int .i64 ((25 : Int).tdiv 8)); kernel_rfl⟩
theorem cut8_26 : CutOK (fop .quo .f64 (Fz (26)) 4620693217682128896) := ⟨(26 : Int).tdiv 8, by show convV Try.prog 27 3 (.float .f64 (fop .quo .f64 (Fz (26)) 4620693217682128896)) = some (.int .i64 ((26 : Int).tdiv 8)); kernel_rfl⟩
theorem cut8_27 : CutOK (fop .quo .f64 (Fz (27)) 4620693217682128896) := ⟨(27 : Int).tdiv 8, by show convV Try.prog 27 3 (.float .f64 (fop .quo .f64 (Fz (27)) 4620693217682128896)) = some (.int .i64 ((27 : Int).tdiv 8)); kernel_rfl⟩
theorem cut8_28 : CutOK (fop .quo .f64 (Fz (28)) 4620693217682128896) := ⟨(28 : Int).tdiv 8, by show convV Try.prog 27 3 (.float .f64 (fop .quo .f64 (Fz (28)) 4620693217682128896)) = some (.int .i64 ((28 : Int).tdiv 8)); kernel_rfl⟩
theorem cut8_29 : CutOK (fop .quo .f64 (Fz (29)) 4620693217682128896) := ⟨(29 : Int).tdiv 8, by show convV Try.prog 27 3 (.float .f64 (fop .quo .f64 (Fz (29)) 4620693217682128896)) = some (.int .i64 ((29 : Int).tdiv 8)); kernel_rfl⟩
theorem cut8_30 : CutOK (fop .quo .f64 (Fz (30)) 4620693217682128896) := ⟨(30 : Int).tdiv 8, by show convV Try.prog 27 3 (.float .f64 (fop .quo .f64 (Fz (30)) 4620693217682128896)) = some (.int .i64 ((30 : Int).tdiv 8)); kernel_rfl⟩
theorem cut8_31 : CutOK (fop .quo .f64 (Fz (31)) 4620693217682128896) := ⟨(31 : Int).tdiv 8, by show convV Try.prog 27 3 (.float .f64 (fop .quo .f64 (Fz (31)) 4620693217682128896)) = some (.int .i64 ((31 : Int).tdiv 8)); kernel_rfl⟩
theorem cut8_32 : CutOK (fop .quo .f64 (Fz (32)) 4620693217682128896) := ⟨(32 : Int).tdiv 8, by show convV Try.prog 27 3 (.float .f64 (fop .quo .f64 (Fz (32)) 4620693217682128896)) = some (.int .i64 ((32 : Int).tdiv 8)); kernel_rfl⟩
theorem cut4_m8 : CutOK (fop .quo .f64 (Fz (-8)) 4616189618054758400) := ⟨(-8 : Int).tdiv 4, by show convV Try.prog 27 3 (.float .f64 (fop .quo .f64 (Fz (-8)) 4616189618054758400)) = some (.int .i64 ((-8 : Int).tdiv 4)); kernel_rfl⟩
theorem cut4_m7 : CutOK (fop .quo .f64 (Fz (-7)) 4616189618054758400) := ⟨(-7 : Int).tdiv 4, by show convV Try.prog 27 3 (.float .f64 (fop .quo .f64 (Fz (-7)) 4616189618054758400)) = some (.int .i64 ((-7 : Int).tdiv 4)); kernel_rfl⟩
theorem cut4_m6 : CutOK (fop .quo .f64 (Fz (-6)) 4616189618054758400) := ⟨(-6 : Int).tdiv 4, by show convV Try.prog 27 3 (.float .f64 (fop .quo .f64 (Fz (-6)) 4616189618054758400)) = some (.int .i64 ((-6 : Int).tdiv 4)); kernel_rfl⟩
theorem cut4_m5 : CutOK (fop .quo .f64 (Fz (-5)) 4616189618054758400) := ⟨(-5 : Int).tdiv 4, by show convV Try.prog 27 3 (.float .f64 (fop .quo .f64 (Fz (-5)) 4616189618054758400)) = some (.int .i64 ((-5 : Int).tdiv 4)); kernel_rfl⟩
theorem cut4_m4 : CutOK (fop .quo .f64 (Fz (-4)) 4616189618054758400) := ⟨(-4 : Int).tdiv 4, by show convV Try.prog 27 3 (.float .f64 (fop .quo .f64 (Fz (-4)) 4616189618054758400)) = some (.int .i64 ((-4 : Int).tdiv 4)); kernel_rfl⟩
theorem cut4_m3 : CutOK (fop .quo .f64 (Fz (-3)) 4616189618054758400) := ⟨(-3 : Int).tdiv 4, by show convV Try.prog 27 3 (.float .f64 (fop .quo .f64 (Fz (-3)) 4616189618054758400)) = some (.int .i64 ((-3 : Int).tdiv 4)); kernel_rfl⟩
theorem cut4_m2 : CutOK (fop .quo .f64 (Fz (-2)) 4616189618054758400) := ⟨(-2 : Int).tdiv 4, by show convV Try.prog 27 3 (.float .f64 (fop .quo .f64 (Fz (-2)) 4616189618054758400)) = some (.int .i64 ((-2 : Int).tdiv 4)); kernel_rfl⟩
theorem cut4_m1 : CutOK (fop .quo .f64 (Fz (-1)) 4616189618054758400) := ⟨(-1 : Int).tdiv 4, by show convV Try.prog 27 3 (.float .f64 (fop .quo .f64 (Fz (-1)) 4616189618054758400)) = some (.int .i64 ((-1 : Int).tdiv 4)); kernel_rfl⟩
theorem cut4_0 : CutOK (fop .quo .f64 (Fz (0)) 4616189618054758400) := ⟨(0 : Int).tdiv 4, by show convV Try.prog 27 3 (.float .f64 (fop .quo .f64 (Fz (0)) 4616189618054758400)) = some (.int .i64 ((0 : Int).tdiv 4)); kernel_rfl⟩
theorem cut4_1 : CutOK (fop .quo .f64 (Fz (1)) 4616189618054758400) := ⟨(1 : Int).tdiv 4, by show convV Try.prog 27 3 (.float .f64 (fop .quo .f64 (Fz (1)) 4616189618054758400)) = some (.int .i64 ((1 : Int).tdiv 4)); kernel_rfl⟩
theorem cut4_2 : CutOK (fop .quo .f64 (Fz (2)) 4616189618054758400) := ⟨(2 : Int).tdiv 4, by show convV Try.prog 27 3 (.float .f64 (fop .quo .f64 (Fz (2)) 4616189618054758400)) = some (.int .i64 ((2 : Int).tdiv 4)); kernel_rfl⟩
theorem cut4_3 : CutOK (fop .quo .f64 (Fz (3)) 4616189618054758400) := ⟨(3 : Int).tdiv 4, by show convV Try.prog 27 3 (.float .f64 (fop .quo .f64 (Fz (3)) 4616189618054758400)) = some (.int .i64 ((3 : Int).tdiv 4)); kernel_rfl⟩
theorem cut4_4 : CutOK (fop .quo .f64 (Fz (4)) 4616189618054758400) := ⟨(4 : Int).tdiv 4, by show convV Try.prog 27 3 (.float .f64 (fop .quo .f64 (Fz (4)) 4616189618054758400)) = some (.int .i64 ((4 : Int).tdiv 4)); kernel_rfl⟩
theorem cut4_5 : CutOK (fop .quo .f64 (Fz (5)) 4616189618054758400) := ⟨(5 : Int).tdiv 4, by show convV Try.prog 27 3 (.float .f64 (fop .quo .f64 (Fz (5)) 4616189618054758400)) = some (.int .i64 ((5 : Int).tdiv 4)); kernel_rfl⟩
theorem cut4_6 : CutOK (fop .quo .f64 (Fz (6)) 4616189618054758400) := ⟨(6 : Int).tdiv 4, by show convV Try.prog 27 3 (.float .f64 (fop .quo .f64 (Fz (6)) 4616189618054758400)) = some (.int .i64 ((6 : Int).tdiv 4)); kernel_rfl⟩
theorem cut4_7 : CutOK (fop .quo .f64 (Fz (7)) 4616189618054758400) := ⟨(7 : Int).tdiv 4, by show convV Try.prog 27 3 (.float .f64 (fop .quo .f64 (Fz (7)) 4616189618054758400)) = some (.int .i64 ((7 : Int).tdiv 4)); kernel_rfl⟩
theorem cut4_8 : CutOK (fop .quo .f64 (Fz (8)) 4616189618054758400) := ⟨(8 : Int).tdiv 4, by show convV Try.prog 27 3 (.float .f64 (fop .quo .f64 (Fz (8)) 4616189618054758400)) = some (.int .i64 ((8 : Int).tdiv 4)); kernel_rfl⟩
theorem cut8 (i : Int) (h1 : -32 ≤ i) (h2 : i ≤ 32) : CutOK (fop .quo .f64 (Fz i) 4620693217682128896) := by
  have : i = -32 ∨ i = -31 ∨ i = -30 ∨ i = -29 ∨ i = -28 ∨ i = -27 ∨ i = -26 ∨ i = -25 ∨ i = -24 ∨ i = -23 ∨ i = -22 ∨ i = -21 ∨ i = -20 ∨ i = -19 ∨ i = -18 ∨ i = -17 ∨ i = -16 ∨ i = -15 ∨ i = -14 ∨ i = -13 ∨ i = -12 ∨ i = -11 ∨ i = -10 ∨ i = -9 ∨ i = -8 ∨ i = -7 ∨ i = -6 ∨ i = -5 ∨ i = -4 ∨ i = -3 ∨ i = -2 ∨ i = -1 ∨ i = 0 ∨ i = 1 ∨ i = 2 ∨ i = 3 ∨ i = 4 ∨ i = 5 ∨ i = 6 ∨ i = 7 ∨ i = 8 ∨ i = 9 ∨ i = 10 ∨ i = 11 ∨ i = 12 ∨ i = 13 ∨ i = 14 ∨ i = 15 ∨ i = 16 ∨ i = 17 ∨ i = 18 ∨ i = 19 ∨ i = 20 ∨ i = 21 ∨ i = 22 ∨ i = 23 ∨ i = 24 ∨ i = 25 ∨ i = 26 ∨ i = 27 ∨ i = 28 ∨ i = 29 ∨ i = 30 ∨ i = 31 ∨ i = 32 := by omega
  rcases this with rfl | rfl | rfl | rfl | rfl | rfl | rfl | rfl | rfl | rfl | rfl | rfl | rfl | rfl | rfl | rfl | rfl | rfl | rfl | rfl | rfl | rfl | rfl | rfl | rfl | rfl | rfl | rfl | rfl | rfl | rfl | rfl | rfl | rfl | rfl | rfl | rfl | rfl | rfl | rfl | rfl | rfl | rfl | rfl | rfl | rfl | rfl | rfl | rfl | rfl | rfl | rfl | rfl | rfl | rfl | rfl | rfl | rfl | rfl | rfl | rfl | rfl | rfl | rfl | rfl
  · exact cut8_m32
  · exact cut8_m31
  · exact cut8_m30
  · exact cut8_m29
  · exact cut8_m28
  · exact cut8_m27
  · exact cut8_m26
  · exact cut8_m25
  · exact cut8_m24
  · exact cut8_m23
  · exact cut8_m22
  · exact cut8_m21
  · exact cut8_m20
  · exact cut8_m19
  · exact cut8_m18
  · exact cut8_m17
  · exact cut8_m16
  · exact cut8_m15
  · exact cut8_m14
  · exact cut8_m13
  · exact cut8_m12
  · exact cut8_m11
  · exact cut8_m10
  · exact cut8_m9
  · exact cut8_m8
  · exact cut8_m7
  · exact cut8_m6
  · exact cut8_m5
  · exact cut8_m4
  · exact cut8_m3
  · exact cut8_m2
  · exact cut8_m1
  · exact cut8_0
  · exact cut8_1
  · exact cut8_2
  · exact cut8_3
  · exact cut8_4
  · exact cut8_5
  · exact cut8_6
  · exact cut8_7
  · exact cut8_8
  · exact cut8_9
  · exact cut8_10
  · exact cut8_11
  · exact cut8_12
  · exact cut8_13
  · exact cut8_14
  · exact cut8_15
  · exact cut8_16
  · exact cut8_17
  · exact cut8_18
  · exact cut8_19
  · exact cut8_20
  · exact cut8_21
  · exact cut8_22
  · exact cut8_23
  · exact cut8_24
  · exact cut8_25
  · exact cut8_26
  · exact cut8_27
  · exact cut8_28
  · exact cut8_29
  · exact cut8_30
  · exact cut8_31
  · exact cut8_32
theorem cut4 (i : Int) (h1 : -8 ≤ i) (h2 : i ≤ 8) : CutOK (fop .quo .f64 (Fz i) 4616189618054758400) := by
  have : i = -8 ∨ i = -7 ∨ i = -6 ∨ i = -5 ∨ i = -4 ∨ i = -3 ∨ i = -2 ∨ i = -1 ∨ i = 0 ∨ i = 1 ∨ i = 2 ∨ i = 3 ∨ i = 4 ∨ i = 5 ∨ i = 6 ∨ i = 7 ∨ i = 8 := by omega
  rcases this with rfl | rfl | rfl | rfl | rfl | rfl | rfl | rfl | rfl | rfl | rfl | rfl | rfl | rfl | rfl | rfl | rfl
  · exact cut4_m8
  · exact cut4_m7
  · exact cut4_m6
  · exact cut4_m5
  · exact cut4_m4
  · exact cut4_m3
  · exact cut4_m2
  · exact cut4_m1
  · exact cut4_0
  · exact cut4_1
  · exact cut4_2
  · exact cut4_3
  · exact cut4_4
  · exact cut4_5
  · exact cut4_6
  · exact cut4_7
  · exact cut4_8
theorem mk_cut (n : Int) (zs : List Int) {k : Nat} (hk : k < mkM n zs) : CutOK (tmkO n zs false k).C := by
  by_cases h1 : k < mkN n
  · have e : tmkO n zs false k = ⟨1, Int.ofNat k, 0, 0⟩ := by unfold tmkO Omk; rw [if_pos h1]
    rw [e]
    exact cut_zero
  by_cases h2 : k = mkN n
  · have e : tmkO n zs false k = ⟨0, 0, 0, fop .quo .f64 (mkC n) 4616189618054758400⟩ := by unfold tmkO Omk; rw [if_neg h1, if_pos h2]
    rw [e]
    unfold mkC
    have a1 := Int.emod_nonneg n (b := 17) (by decide)
    have a2 := Int.emod_lt_of_pos n (b := 17) (by decide)
    rw [show wr (n % 17 - 8) = n % 17 - 8 from wrap_id (by omega) (by omega)]
    exact cut4 _ (by omega) (by omega)
  · obtain ⟨i, rfl⟩ : ∃ i, k = mkN n + 1 + i := ⟨k - (mkN n + 1), by omega⟩
    have hi : i < 8 ∧ i < zs.length := by unfold mkM mkL at hk; omega
    rw [mkO_at (List.getElem?_eq_getElem hi.2) hi.1]
    generalize zs[i] = z
    unfold mkOp RnK.op
    by_cases h : decide (z % 11 = 0) = true
    · rw [h]
      have a1 := Int.emod_nonneg (wr (z.tdiv 11)) (b := 33) (by decide)
      have a2 := Int.emod_lt_of_pos (wr (z.tdiv 11)) (b := 33) (by decide)
      show CutOK (fop .quo .f64 (Fz (wr (wr (z.tdiv 11) % 33 - 16))) 4620693217682128896)
      rw [show wr (wr (z.tdiv 11) % 33 - 16) = wr (z.tdiv 11) % 33 - 16 from wrap_id (by omega) (by omega)]
      exact cut8 _ (by omega) (by omega)
    · rw [Bool.not_eq_true] at h
      rw [h]
      first
        | exact cut_zero
        | (simp only [Bool.false_eq_true, if_false]; exact cut_zero)
        | (simp only [Bool.false_eq_true, if_false]; split <;> exact cut_zero)
theorem val_cut (ms : List Int) (i : Nat) : CutOK (vw8 (Fz (vlI ms i))) := by
  have b := vlI_bd ms i
  exact cut8 _ (by omega) (by omega)

/-! one operation more -/
theorem runL_appD {T : Type} (d : T) (cf : Nat → T) (op2 : Int → T → T → T) (x : Nat → T) : ∀ (l l2 : List OpD) (r : List T), runL d cf op2 x (l ++ l2) r = runL d cf op2 x l2 (runL d cf op2 x l r)
  | [], l2, r => rfl
  | o :: l, l2, r => by rw [List.cons_append, runL, runL, runL_appD d cf op2 x l]
theorem regD_app {ops ext : List OpD} {xs : List Nat} {j : Nat} (hj : j < ops.length) : regD (ops ++ ext) xs j = regD ops xs j := by
  unfold regD regT
  rw [runL_appD, runL_pre]
  rw [runL_length]
  simpa using hj
theorem knownSu : Runs Try.prog 12 #[] #[] (.bool true) #[] := by
  have h : (askN noF noC 12 12 #[] #[] []).map (fun r => (r.1, r.2.2)) = some (.bool true, []) := by kernel_rfl
  obtain ⟨H', h⟩ := tells_of h trivial
  exact h.quiet rfl rfl #[]
theorem su_run {N L : Nat} (h1 : 1 ≤ N) (h2 : N ≤ 3) (h : L ≤ 8) (minus : Bool) : SuRun N (N + 1 + L) minus := by
  have : N = 1 ∨ N = 2 ∨ N = 3 := by omega
  rcases this with rfl | rfl | rfl
  · exact su_run1 h minus
  · exact su_run2 h minus
  · exact su_run3 h minus
theorem su_get {α : Type} (f : Nat → α) (d : α) {N i : Nat} (hi : i < N) : ((List.range N).map f).getD i d = f i := by
  rw [List.getD_eq_getElem?_getD, List.getElem?_map, List.getElem?_range hi]
  rfl
theorem okD_of {k n : Nat} {o p : OpD} (h : opOkD k n o) (e1 : p.K = o.K) (e2 : p.A = o.A) (e3 : p.B = o.B) : opOkD k n p := by
  unfold opOkD at *
  rw [e1, e2, e3]
  exact h
theorem grS_at {N : Nat} (h1 : 1 ≤ N) (h2 : N ≤ 3) (M : Nat) : (grS N M).length = 2 * N ∧ (grS N M)[2 * N - 1]? = some (iB (cuM N fun _ => Int.ofNat M)) := by
  have : N = 1 ∨ N = 2 ∨ N = 3 := by omega
  rcases this with rfl | rfl | rfl <;> exact ⟨rfl, rfl⟩
set_option maxHeartbeats 4000000 in
theorem jacSums_pad {o o2 : Option ABlk} {va vb : Value} {zs ms : List Int} (ha : Handed #[o, o2] zs va) (hb : Handed #[o, o2] ms vb) (n : Int) (minus : Bool) :
    Tells 5 #[.int .i64 n, va, vb, .bool minus] #[o, o2] (.bool true) := by
  obtain ⟨n1, n2⟩ := mkN_le n
  obtain ⟨m1, m2⟩ := mkM_le n zs
  have hL : mkL zs ≤ 8 := by unfold mkL; omega
  have hrun : SuRun (mkN n) (mkM n zs) minus := su_run n1 n2 hL minus
  have hUb := mkU_bd n m1 (by omega)
  obtain ⟨z, hz⟩ := Classical.axiomOfChoice (fun k : Nat => (show ∃ z, k < mkM n zs → (ciO (tmkO n zs false k).C z).ok Try.prog from by
    by_cases h : k < mkM n zs
    · obtain ⟨z, hz⟩ := mk_cut n zs h
      exact ⟨z, fun _ => hz⟩
    · exact ⟨0, fun h' => absurd h' h⟩))
  obtain ⟨zx, hzx⟩ := Classical.axiomOfChoice (fun i : Nat => val_cut ms i)
  generalize hN : mkN n = N at n1 n2 hrun
  generalize hM : mkM n zs = M at m1 m2 hrun hUb hz
  let O : Nat → OpD := tmkO n zs false
  let u : Nat → Int := mkU n M
  let fx : Nat → Nat := fun i => vw8 (Fz (vlI ms i))
  let g : Nat → Nat := fun i => Fz (z i)
  let gx : Nat → Nat := fun i => Fz (zx i)
  let ops : List OpD := (List.range M).map fun i => ⟨(O i).K, (O i).A, (O i).B, g i⟩
  let last : OpD := ⟨kSu minus, u 0, u (N - 1), 0⟩
  let xs : List Nat := (List.range N).map gx
  let out : List Int := (List.range N).map u
  let outU : List Int := (List.range N).map fun _ => Int.ofNat M
  let R := rwD ops xs out
  let RU := rwD (ops ++ [last]) xs outU
  have r := hrun o o2 n va vb (fun i => (O i).K) (fun i => (O i).A) (fun i => (O i).B) (fun i => (O i).C) g u fx gx z zx R RU
  have ec : coM M (fun i => (O i).K) (fun i => (O i).A) (fun i => (O i).B) (fun i => (O i).C) = (opsB (mkOps n zs false) true).cells := by
    subst hM
    exact congrArg List.toArray (flat_range (f := opC) (tmkO n zs false) (mkM n zs))
  have eu : cuM N u = (intB (mkOut n M) true).cells := by
    subst hN
    exact congrArg List.toArray (flat_range (f := iC) (mkU n M) (mkN n))
  have hh := fun (c : List (Option ABlk)) {zs : List Int} {v : Value} (h : Handed [o, o2].toArray zs v) => h.list c
  have hl : ops.length = M := by simp [ops]
  have hx : xs.length = N := by simp [xs]
  have ho : out.length = N := by simp [out]
  have hoU : outU.length = N := by simp [outU]
  have hokO : ∀ k o, (mkOps n zs false)[k]? = some o → opOkD k (mkN n) o := mk_ok n zs false
  have hok : ∀ k o, ops[k]? = some o → opOkD k N o := by
    intro k o h
    have hk : k < M := by rw [← hl]; exact (List.getElem?_eq_some_iff.1 h).1
    have h2 : ops[k]? = some ⟨(O k).K, (O k).A, (O k).B, g k⟩ := by
      show ((List.range M).map _)[k]? = _
      rw [List.getElem?_map, List.getElem?_range hk]; rfl
    rw [h] at h2
    injection h2 with h2
    have h3 : (mkOps n zs false)[k]? = some (O k) := by
      unfold mkOps
      rw [hM, List.getElem?_map, List.getElem?_range hk]; rfl
    rw [h2]
    have := hokO k _ h3
    rw [hN] at this
    exact okD_of this rfl rfl rfl
  have hlastOk : opOkD M N last := by
    refine .inr (.inr ⟨?_, ?_, (hUb 0).1, (hUb 0).2, (hUb _).1, (hUb _).2⟩)
    · show 2 ≤ kSu minus
      cases minus <;> decide
    · show kSu minus ≤ 5
      cases minus <;> decide
  have hat : (ops ++ [last])[M]? = some last := by rw [List.getElem?_append_right (by omega), hl, Nat.sub_self]; rfl
  have hokU : ∀ k o, (ops ++ [last])[k]? = some o → opOkD k N o := by
    intro k o h
    by_cases hk : k < M
    · rw [List.getElem?_append_left (by omega)] at h
      exact hok k o h
    · have hk2 : k = M := by
        have := (List.getElem?_eq_some_iff.1 h).1
        rw [List.length_append, hl] at this
        simp at this
        omega
      subst hk2
      rw [hat] at h
      injection h with h
      rw [← h]
      exact hlastOk
  have hu : ∀ v ∈ out, 0 ≤ v ∧ v < ops.length := by
    intro v hv
    obtain ⟨i, _, rfl⟩ := List.mem_map.1 hv
    rw [hl]
    exact hUb i
  have huU : ∀ v ∈ outU, 0 ≤ v ∧ v < (ops ++ [last]).length := by
    intro v hv
    obtain ⟨i, _, rfl⟩ := List.mem_map.1 hv
    rw [List.length_append, hl]
    exact ⟨Int.natCast_nonneg _, by show ((M : Nat) : Int) < ((M + 1 : Nat) : Int); omega⟩
  have eO : coM M (fun i => (O i).K) (fun i => (O i).A) (fun i => (O i).B) g = (opsB ops true).cells := congrArg List.toArray (flat_range (f := opC) (fun i => (⟨(O i).K, (O i).A, (O i).B, g i⟩ : OpD)) M)
  have eU : coU M (fun i => (O i).K) (fun i => (O i).A) (fun i => (O i).B) g (kSu minus) (u 0) (u (N - 1)) = (opsB (ops ++ [last]) true).cells := by
    unfold coU opsB
    show _ = ((ops ++ [last]).flatMap opC).toArray
    rw [List.flatMap_append]
    have e1 := flat_range (f := opC) (fun i => (⟨(O i).K, (O i).A, (O i).B, g i⟩ : OpD)) M
    exact congrArg List.toArray (congrArg (· ++ _) e1)
  have eO1 : cuM N u = (intB out true).cells := congrArg List.toArray (flat_range (f := iC) u N)
  have eU1 : cuM N (fun _ => Int.ofNat M) = (intB outU true).cells := congrArg List.toArray (flat_range (f := iC) (fun _ => Int.ofNat M) N)
  obtain ⟨gl, gg⟩ := grS_at n1 n2 M
  generalize hH : hpS o o2 N M minus (fun i => (O i).K) (fun i => (O i).A) (fun i => (O i).B) g u = HH at r
  have hHl : HH.length = 10 + 2 * N := by
    rw [← hH]
    unfold hpS
    rw [List.length_append, gl]
    rfl
  have q2 : HH[2]? = some (opB (opsB ops true).cells) := by rw [← hH, ← eO]; rfl
  have q3 : HH[3]? = some (iB (intB out true).cells) := by rw [← hH, ← eO1]; rfl
  have q9 : HH[9]? = some (opB (opsB (ops ++ [last]) true).cells) := by rw [← hH, ← eU]; rfl
  have q11 : HH[9 + 2 * N]? = some (iB (intB outU true).cells) := by
    rw [← hH, ← eU1]
    unfold hpS
    rw [List.getElem?_append_right (by show 10 ≤ _; omega)]
    rw [show 9 + 2 * N - [o, o2, opB (coM M (fun i => (O i).K) (fun i => (O i).A) (fun i => (O i).B) g), iB (cuM N u), tcB 2 N M, none, none, tcS N M, opB #[.int .i64 (kSu minus), .int .i64 (u 0), .int .i64 (u (N - 1)), .float .f64 0], opB (coU M (fun i => (O i).K) (fun i => (O i).A) (fun i => (O i).B) g (kSu minus) (u 0) (u (N - 1)))].length = 2 * N - 1 by show 9 + 2 * N - 10 = _; omega]
    exact gg
  have ap : ∀ {i : Nat} {x : Option ABlk} (c : List (Option ABlk)), HH[i]? = some x → (HH ++ c)[i]? = some x := by
    intro i x c h
    rw [List.getElem?_append_left (List.getElem?_eq_some_iff.1 h).1]; exact h
  have qx : ∀ c, (HH ++ ([nwF xs] ++ c))[10 + 2 * N]? = some (nwF xs) := fun c => by
    rw [List.getElem?_append_right (by omega), hHl, Nat.sub_self]
    rfl
  have lt : (tabJ (11 + 2 * N) N R).length = N + 1 := tab_len _ N R
  refine tells_of r (okApp' (okApp' (okApp' (okApp' (okApp' ⟨knownSu, ?_, trivial⟩ (each_ok _ _ fun i hi => ⟨hz i (List.mem_range.1 hi), cv_ok _, trivial⟩)) ⟨?_, trivial⟩) (each_ok _ _ fun i _ => ⟨hzx i, cv_ok _, trivial⟩)) ⟨?_, ?_, trivial⟩) (map_ok _ _ fun i hi => ?_))
  · rw [ec, eu]
    have := make_rn (l := [o, o2]) n false (hh [] ha) hN hM rfl
    rw [hM] at this
    exact this
  · have := val_rn (l := HH) n1 (by omega) (by
      have h9 := hh (HH.drop 2) hb
      rw [show [o, o2] ++ HH.drop 2 = HH by rw [← hH]; rfl] at h9
      exact h9) (s := 10 + 2 * N) hHl.symm
    exact this
  · have := jacAny_rn (l := HH ++ [nwF xs]) (bo := 2) (bu := 3) (bx := 10 + 2 * N) (s := 11 + 2 * N) hok hx ho hu n1 (by omega) hl (by omega) (by omega) (ap _ q2) (ap _ q3) (qx []) (by decide) (by omega) (by omega) (by rw [List.length_append, hHl]; show _ = 10 + 2 * N + 1; omega)
    exact this
  · have := jacAny_rn (l := HH ++ [nwF xs] ++ tabJ (11 + 2 * N) N R) (bo := 9) (bu := 9 + 2 * N) (bx := 10 + 2 * N) (s := 12 + 3 * N) (M := M + 1) hokU hx hoU huU n1 (by omega) (by rw [List.length_append, hl]; rfl) (by omega) (by omega) (by rw [List.append_assoc]; exact ap _ q9) (by rw [List.append_assoc]; exact ap _ q11) (by rw [List.append_assoc]; exact qx _) (by omega) (by omega) (by omega) (by rw [List.length_append, List.length_append, hHl, lt]; simp; omega)
    exact this
  · have hi := List.mem_range.1 hi
    have e0 : RU 0 i = wantS minus (R 0 i) (R (N - 1) i) := by
      show (regD (ops ++ [last]) xs (outU.getD 0 0).toNat).2 i = wantS minus ((regD ops xs (out.getD 0 0).toNat).2 i) ((regD ops xs (out.getD (N - 1) 0).toNat).2 i)
      rw [show outU.getD 0 0 = Int.ofNat M from su_get (fun _ => Int.ofNat M) 0 (by omega), show out.getD 0 0 = u 0 from su_get u 0 (by omega), show out.getD (N - 1) 0 = u (N - 1) from su_get u 0 (by omega)]
      rw [show (Int.ofNat M).toNat = M from rfl, regD_s hat hlastOk]
      have h0 := hUb 0
      have h1 := hUb (N - 1)
      have g0 : regD (ops ++ [last]) xs (u 0).toNat = regD ops xs (u 0).toNat := regD_app (by rw [hl]; show (mkU n M 0).toNat < M; omega)
      have g1 : regD (ops ++ [last]) xs (u (N - 1)).toNat = regD ops xs (u (N - 1)).toNat := regD_app (by rw [hl]; show (mkU n M (N - 1)).toNat < M; omega)
      show (if kSu minus = 0 then _ else if kSu minus = 1 then _ else slF (kSu minus) (regD (ops ++ [last]) xs (u 0).toNat).1 (regD (ops ++ [last]) xs (u (N - 1)).toNat).1 _ ((regD (ops ++ [last]) xs (u 0).toNat).2 i) ((regD (ops ++ [last]) xs (u (N - 1)).toNat).2 i)) = _
      rw [g0, g1]
      cases minus <;> rfl
    show (qtO 19 #[.float .f64 (RU 0 i), .float .f64 (wantS minus (R 0 i) (R (N - 1) i))] (.bool true)).ok Try.prog
    rw [e0]
    exact same_refl _

end Go.Proofs.Ytdlinjijccnaeaa
