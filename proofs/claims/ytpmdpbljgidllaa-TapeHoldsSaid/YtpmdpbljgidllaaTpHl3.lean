/- TapeHolds: its runs, of 3 variables. -/
import Derived.Test.YtpmdpbljgidllaaTpHl
namespace Go.Proofs.Ytpmdpbljgidllaa
open Go
set_option linter.unusedVariables false
set_option linter.unusedSimpArgs false
set_option maxRecDepth 100000

theorem ho_3_0_0_fff : HoRun 3 0 0 (fun i => [false, false, false].getD i false) := fun _ _ _ _ _ _ _ _ _ _ _ _ _ _ _ _ _ _ _ _ => by kernel_rfl
theorem ho_3_0_0_fft : HoRun 3 0 0 (fun i => [false, false, true].getD i false) := fun _ _ _ _ _ _ _ _ _ _ _ _ _ _ _ _ _ _ _ _ => by kernel_rfl
theorem ho_3_0_0_ftf : HoRun 3 0 0 (fun i => [false, true, false].getD i false) := fun _ _ _ _ _ _ _ _ _ _ _ _ _ _ _ _ _ _ _ _ => by kernel_rfl
theorem ho_3_0_0_ftt : HoRun 3 0 0 (fun i => [false, true, true].getD i false) := fun _ _ _ _ _ _ _ _ _ _ _ _ _ _ _ _ _ _ _ _ => by kernel_rfl
theorem ho_3_0_0_tff : HoRun 3 0 0 (fun i => [true, false, false].getD i false) := fun _ _ _ _ _ _ _ _ _ _ _ _ _ _ _ _ _ _ _ _ => by kernel_rfl
theorem ho_3_0_0_tft : HoRun 3 0 0 (fun i => [true, false, true].getD i false) := fun _ _ _ _ _ _ _ _ _ _ _ _ _ _ _ _ _ _ _ _ => by kernel_rfl
theorem ho_3_0_0_ttf : HoRun 3 0 0 (fun i => [true, true, false].getD i false) := fun _ _ _ _ _ _ _ _ _ _ _ _ _ _ _ _ _ _ _ _ => by kernel_rfl
theorem ho_3_0_0_ttt : HoRun 3 0 0 (fun i => [true, true, true].getD i false) := fun _ _ _ _ _ _ _ _ _ _ _ _ _ _ _ _ _ _ _ _ => by kernel_rfl
theorem ho_3_0_1_fff : HoRun 3 0 1 (fun i => [false, false, false].getD i false) := fun _ _ _ _ _ _ _ _ _ _ _ _ _ _ _ _ _ _ _ _ => by kernel_rfl
theorem ho_3_0_1_fft : HoRun 3 0 1 (fun i => [false, false, true].getD i false) := fun _ _ _ _ _ _ _ _ _ _ _ _ _ _ _ _ _ _ _ _ => by kernel_rfl
theorem ho_3_0_1_ftf : HoRun 3 0 1 (fun i => [false, true, false].getD i false) := fun _ _ _ _ _ _ _ _ _ _ _ _ _ _ _ _ _ _ _ _ => by kernel_rfl
theorem ho_3_0_1_ftt : HoRun 3 0 1 (fun i => [false, true, true].getD i false) := fun _ _ _ _ _ _ _ _ _ _ _ _ _ _ _ _ _ _ _ _ => by kernel_rfl
theorem ho_3_0_1_tff : HoRun 3 0 1 (fun i => [true, false, false].getD i false) := fun _ _ _ _ _ _ _ _ _ _ _ _ _ _ _ _ _ _ _ _ => by kernel_rfl
theorem ho_3_0_1_tft : HoRun 3 0 1 (fun i => [true, false, true].getD i false) := fun _ _ _ _ _ _ _ _ _ _ _ _ _ _ _ _ _ _ _ _ => by kernel_rfl
theorem ho_3_0_1_ttf : HoRun 3 0 1 (fun i => [true, true, false].getD i false) := fun _ _ _ _ _ _ _ _ _ _ _ _ _ _ _ _ _ _ _ _ => by kernel_rfl
theorem ho_3_0_1_ttt : HoRun 3 0 1 (fun i => [true, true, true].getD i false) := fun _ _ _ _ _ _ _ _ _ _ _ _ _ _ _ _ _ _ _ _ => by kernel_rfl
theorem ho_3_0_2_fff : HoRun 3 0 2 (fun i => [false, false, false].getD i false) := fun _ _ _ _ _ _ _ _ _ _ _ _ _ _ _ _ _ _ _ _ => by kernel_rfl
theorem ho_3_0_2_fft : HoRun 3 0 2 (fun i => [false, false, true].getD i false) := fun _ _ _ _ _ _ _ _ _ _ _ _ _ _ _ _ _ _ _ _ => by kernel_rfl
theorem ho_3_0_2_ftf : HoRun 3 0 2 (fun i => [false, true, false].getD i false) := fun _ _ _ _ _ _ _ _ _ _ _ _ _ _ _ _ _ _ _ _ => by kernel_rfl
theorem ho_3_0_2_ftt : HoRun 3 0 2 (fun i => [false, true, true].getD i false) := fun _ _ _ _ _ _ _ _ _ _ _ _ _ _ _ _ _ _ _ _ => by kernel_rfl
theorem ho_3_0_2_tff : HoRun 3 0 2 (fun i => [true, false, false].getD i false) := fun _ _ _ _ _ _ _ _ _ _ _ _ _ _ _ _ _ _ _ _ => by kernel_rfl
theorem ho_3_0_2_tft : HoRun 3 0 2 (fun i => [true, false, true].getD i false) := fun _ _ _ _ _ _ _ _ _ _ _ _ _ _ _ _ _ _ _ _ => by kernel_rfl
theorem ho_3_0_2_ttf : HoRun 3 0 2 (fun i => [true, true, false].getD i false) := fun _ _ _ _ _ _ _ _ _ _ _ _ _ _ _ _ _ _ _ _ => by kernel_rfl
theorem ho_3_0_2_ttt : HoRun 3 0 2 (fun i => [true, true, true].getD i false) := fun _ _ _ _ _ _ _ _ _ _ _ _ _ _ _ _ _ _ _ _ => by kernel_rfl
theorem ho_3_0_3_fff : HoRun 3 0 3 (fun i => [false, false, false].getD i false) := fun _ _ _ _ _ _ _ _ _ _ _ _ _ _ _ _ _ _ _ _ => by kernel_rfl
theorem ho_3_0_3_fft : HoRun 3 0 3 (fun i => [false, false, true].getD i false) := fun _ _ _ _ _ _ _ _ _ _ _ _ _ _ _ _ _ _ _ _ => by kernel_rfl
theorem ho_3_0_3_ftf : HoRun 3 0 3 (fun i => [false, true, false].getD i false) := fun _ _ _ _ _ _ _ _ _ _ _ _ _ _ _ _ _ _ _ _ => by kernel_rfl
theorem ho_3_0_3_ftt : HoRun 3 0 3 (fun i => [false, true, true].getD i false) := fun _ _ _ _ _ _ _ _ _ _ _ _ _ _ _ _ _ _ _ _ => by kernel_rfl
theorem ho_3_0_3_tff : HoRun 3 0 3 (fun i => [true, false, false].getD i false) := fun _ _ _ _ _ _ _ _ _ _ _ _ _ _ _ _ _ _ _ _ => by kernel_rfl
theorem ho_3_0_3_tft : HoRun 3 0 3 (fun i => [true, false, true].getD i false) := fun _ _ _ _ _ _ _ _ _ _ _ _ _ _ _ _ _ _ _ _ => by kernel_rfl
theorem ho_3_0_3_ttf : HoRun 3 0 3 (fun i => [true, true, false].getD i false) := fun _ _ _ _ _ _ _ _ _ _ _ _ _ _ _ _ _ _ _ _ => by kernel_rfl
theorem ho_3_0_3_ttt : HoRun 3 0 3 (fun i => [true, true, true].getD i false) := fun _ _ _ _ _ _ _ _ _ _ _ _ _ _ _ _ _ _ _ _ => by kernel_rfl
theorem ho_3_1_0_fff : HoRun 3 1 0 (fun i => [false, false, false].getD i false) := fun _ _ _ _ _ _ _ _ _ _ _ _ _ _ _ _ _ _ _ _ => by kernel_rfl
theorem ho_3_1_0_fft : HoRun 3 1 0 (fun i => [false, false, true].getD i false) := fun _ _ _ _ _ _ _ _ _ _ _ _ _ _ _ _ _ _ _ _ => by kernel_rfl
theorem ho_3_1_0_ftf : HoRun 3 1 0 (fun i => [false, true, false].getD i false) := fun _ _ _ _ _ _ _ _ _ _ _ _ _ _ _ _ _ _ _ _ => by kernel_rfl
theorem ho_3_1_0_ftt : HoRun 3 1 0 (fun i => [false, true, true].getD i false) := fun _ _ _ _ _ _ _ _ _ _ _ _ _ _ _ _ _ _ _ _ => by kernel_rfl
theorem ho_3_1_0_tff : HoRun 3 1 0 (fun i => [true, false, false].getD i false) := fun _ _ _ _ _ _ _ _ _ _ _ _ _ _ _ _ _ _ _ _ => by kernel_rfl
theorem ho_3_1_0_tft : HoRun 3 1 0 (fun i => [true, false, true].getD i false) := fun _ _ _ _ _ _ _ _ _ _ _ _ _ _ _ _ _ _ _ _ => by kernel_rfl
theorem ho_3_1_0_ttf : HoRun 3 1 0 (fun i => [true, true, false].getD i false) := fun _ _ _ _ _ _ _ _ _ _ _ _ _ _ _ _ _ _ _ _ => by kernel_rfl
theorem ho_3_1_0_ttt : HoRun 3 1 0 (fun i => [true, true, true].getD i false) := fun _ _ _ _ _ _ _ _ _ _ _ _ _ _ _ _ _ _ _ _ => by kernel_rfl
theorem ho_3_1_1_fff : HoRun 3 1 1 (fun i => [false, false, false].getD i false) := fun _ _ _ _ _ _ _ _ _ _ _ _ _ _ _ _ _ _ _ _ => by kernel_rfl
theorem ho_3_1_1_fft : HoRun 3 1 1 (fun i => [false, false, true].getD i false) := fun _ _ _ _ _ _ _ _ _ _ _ _ _ _ _ _ _ _ _ _ => by kernel_rfl
theorem ho_3_1_1_ftf : HoRun 3 1 1 (fun i => [false, true, false].getD i false) := fun _ _ _ _ _ _ _ _ _ _ _ _ _ _ _ _ _ _ _ _ => by kernel_rfl
theorem ho_3_1_1_ftt : HoRun 3 1 1 (fun i => [false, true, true].getD i false) := fun _ _ _ _ _ _ _ _ _ _ _ _ _ _ _ _ _ _ _ _ => by kernel_rfl
theorem ho_3_1_1_tff : HoRun 3 1 1 (fun i => [true, false, false].getD i false) := fun _ _ _ _ _ _ _ _ _ _ _ _ _ _ _ _ _ _ _ _ => by kernel_rfl
theorem ho_3_1_1_tft : HoRun 3 1 1 (fun i => [true, false, true].getD i false) := fun _ _ _ _ _ _ _ _ _ _ _ _ _ _ _ _ _ _ _ _ => by kernel_rfl
theorem ho_3_1_1_ttf : HoRun 3 1 1 (fun i => [true, true, false].getD i false) := fun _ _ _ _ _ _ _ _ _ _ _ _ _ _ _ _ _ _ _ _ => by kernel_rfl
theorem ho_3_1_1_ttt : HoRun 3 1 1 (fun i => [true, true, true].getD i false) := fun _ _ _ _ _ _ _ _ _ _ _ _ _ _ _ _ _ _ _ _ => by kernel_rfl
theorem ho_3_1_2_fff : HoRun 3 1 2 (fun i => [false, false, false].getD i false) := fun _ _ _ _ _ _ _ _ _ _ _ _ _ _ _ _ _ _ _ _ => by kernel_rfl
theorem ho_3_1_2_fft : HoRun 3 1 2 (fun i => [false, false, true].getD i false) := fun _ _ _ _ _ _ _ _ _ _ _ _ _ _ _ _ _ _ _ _ => by kernel_rfl
theorem ho_3_1_2_ftf : HoRun 3 1 2 (fun i => [false, true, false].getD i false) := fun _ _ _ _ _ _ _ _ _ _ _ _ _ _ _ _ _ _ _ _ => by kernel_rfl
theorem ho_3_1_2_ftt : HoRun 3 1 2 (fun i => [false, true, true].getD i false) := fun _ _ _ _ _ _ _ _ _ _ _ _ _ _ _ _ _ _ _ _ => by kernel_rfl
theorem ho_3_1_2_tff : HoRun 3 1 2 (fun i => [true, false, false].getD i false) := fun _ _ _ _ _ _ _ _ _ _ _ _ _ _ _ _ _ _ _ _ => by kernel_rfl
theorem ho_3_1_2_tft : HoRun 3 1 2 (fun i => [true, false, true].getD i false) := fun _ _ _ _ _ _ _ _ _ _ _ _ _ _ _ _ _ _ _ _ => by kernel_rfl
theorem ho_3_1_2_ttf : HoRun 3 1 2 (fun i => [true, true, false].getD i false) := fun _ _ _ _ _ _ _ _ _ _ _ _ _ _ _ _ _ _ _ _ => by kernel_rfl
theorem ho_3_1_2_ttt : HoRun 3 1 2 (fun i => [true, true, true].getD i false) := fun _ _ _ _ _ _ _ _ _ _ _ _ _ _ _ _ _ _ _ _ => by kernel_rfl
theorem ho_3_1_3_fff : HoRun 3 1 3 (fun i => [false, false, false].getD i false) := fun _ _ _ _ _ _ _ _ _ _ _ _ _ _ _ _ _ _ _ _ => by kernel_rfl
theorem ho_3_1_3_fft : HoRun 3 1 3 (fun i => [false, false, true].getD i false) := fun _ _ _ _ _ _ _ _ _ _ _ _ _ _ _ _ _ _ _ _ => by kernel_rfl
theorem ho_3_1_3_ftf : HoRun 3 1 3 (fun i => [false, true, false].getD i false) := fun _ _ _ _ _ _ _ _ _ _ _ _ _ _ _ _ _ _ _ _ => by kernel_rfl
theorem ho_3_1_3_ftt : HoRun 3 1 3 (fun i => [false, true, true].getD i false) := fun _ _ _ _ _ _ _ _ _ _ _ _ _ _ _ _ _ _ _ _ => by kernel_rfl
theorem ho_3_1_3_tff : HoRun 3 1 3 (fun i => [true, false, false].getD i false) := fun _ _ _ _ _ _ _ _ _ _ _ _ _ _ _ _ _ _ _ _ => by kernel_rfl
theorem ho_3_1_3_tft : HoRun 3 1 3 (fun i => [true, false, true].getD i false) := fun _ _ _ _ _ _ _ _ _ _ _ _ _ _ _ _ _ _ _ _ => by kernel_rfl
theorem ho_3_1_3_ttf : HoRun 3 1 3 (fun i => [true, true, false].getD i false) := fun _ _ _ _ _ _ _ _ _ _ _ _ _ _ _ _ _ _ _ _ => by kernel_rfl
theorem ho_3_1_3_ttt : HoRun 3 1 3 (fun i => [true, true, true].getD i false) := fun _ _ _ _ _ _ _ _ _ _ _ _ _ _ _ _ _ _ _ _ => by kernel_rfl
theorem ho_3_2_0_fff : HoRun 3 2 0 (fun i => [false, false, false].getD i false) := fun _ _ _ _ _ _ _ _ _ _ _ _ _ _ _ _ _ _ _ _ => by kernel_rfl
theorem ho_3_2_0_fft : HoRun 3 2 0 (fun i => [false, false, true].getD i false) := fun _ _ _ _ _ _ _ _ _ _ _ _ _ _ _ _ _ _ _ _ => by kernel_rfl
theorem ho_3_2_0_ftf : HoRun 3 2 0 (fun i => [false, true, false].getD i false) := fun _ _ _ _ _ _ _ _ _ _ _ _ _ _ _ _ _ _ _ _ => by kernel_rfl
theorem ho_3_2_0_ftt : HoRun 3 2 0 (fun i => [false, true, true].getD i false) := fun _ _ _ _ _ _ _ _ _ _ _ _ _ _ _ _ _ _ _ _ => by kernel_rfl
theorem ho_3_2_0_tff : HoRun 3 2 0 (fun i => [true, false, false].getD i false) := fun _ _ _ _ _ _ _ _ _ _ _ _ _ _ _ _ _ _ _ _ => by kernel_rfl
theorem ho_3_2_0_tft : HoRun 3 2 0 (fun i => [true, false, true].getD i false) := fun _ _ _ _ _ _ _ _ _ _ _ _ _ _ _ _ _ _ _ _ => by kernel_rfl
theorem ho_3_2_0_ttf : HoRun 3 2 0 (fun i => [true, true, false].getD i false) := fun _ _ _ _ _ _ _ _ _ _ _ _ _ _ _ _ _ _ _ _ => by kernel_rfl
theorem ho_3_2_0_ttt : HoRun 3 2 0 (fun i => [true, true, true].getD i false) := fun _ _ _ _ _ _ _ _ _ _ _ _ _ _ _ _ _ _ _ _ => by kernel_rfl
theorem ho_3_2_1_fff : HoRun 3 2 1 (fun i => [false, false, false].getD i false) := fun _ _ _ _ _ _ _ _ _ _ _ _ _ _ _ _ _ _ _ _ => by kernel_rfl
theorem ho_3_2_1_fft : HoRun 3 2 1 (fun i => [false, false, true].getD i false) := fun _ _ _ _ _ _ _ _ _ _ _ _ _ _ _ _ _ _ _ _ => by kernel_rfl
theorem ho_3_2_1_ftf : HoRun 3 2 1 (fun i => [false, true, false].getD i false) := fun _ _ _ _ _ _ _ _ _ _ _ _ _ _ _ _ _ _ _ _ => by kernel_rfl
theorem ho_3_2_1_ftt : HoRun 3 2 1 (fun i => [false, true, true].getD i false) := fun _ _ _ _ _ _ _ _ _ _ _ _ _ _ _ _ _ _ _ _ => by kernel_rfl
theorem ho_3_2_1_tff : HoRun 3 2 1 (fun i => [true, false, false].getD i false) := fun _ _ _ _ _ _ _ _ _ _ _ _ _ _ _ _ _ _ _ _ => by kernel_rfl
theorem ho_3_2_1_tft : HoRun 3 2 1 (fun i => [true, false, true].getD i false) := fun _ _ _ _ _ _ _ _ _ _ _ _ _ _ _ _ _ _ _ _ => by kernel_rfl
theorem ho_3_2_1_ttf : HoRun 3 2 1 (fun i => [true, true, false].getD i false) := fun _ _ _ _ _ _ _ _ _ _ _ _ _ _ _ _ _ _ _ _ => by kernel_rfl
theorem ho_3_2_1_ttt : HoRun 3 2 1 (fun i => [true, true, true].getD i false) := fun _ _ _ _ _ _ _ _ _ _ _ _ _ _ _ _ _ _ _ _ => by kernel_rfl
theorem ho_3_2_2_fff : HoRun 3 2 2 (fun i => [false, false, false].getD i false) := fun _ _ _ _ _ _ _ _ _ _ _ _ _ _ _ _ _ _ _ _ => by kernel_rfl
theorem ho_3_2_2_fft : HoRun 3 2 2 (fun i => [false, false, true].getD i false) := fun _ _ _ _ _ _ _ _ _ _ _ _ _ _ _ _ _ _ _ _ => by kernel_rfl
theorem ho_3_2_2_ftf : HoRun 3 2 2 (fun i => [false, true, false].getD i false) := fun _ _ _ _ _ _ _ _ _ _ _ _ _ _ _ _ _ _ _ _ => by kernel_rfl
theorem ho_3_2_2_ftt : HoRun 3 2 2 (fun i => [false, true, true].getD i false) := fun _ _ _ _ _ _ _ _ _ _ _ _ _ _ _ _ _ _ _ _ => by kernel_rfl
theorem ho_3_2_2_tff : HoRun 3 2 2 (fun i => [true, false, false].getD i false) := fun _ _ _ _ _ _ _ _ _ _ _ _ _ _ _ _ _ _ _ _ => by kernel_rfl
theorem ho_3_2_2_tft : HoRun 3 2 2 (fun i => [true, false, true].getD i false) := fun _ _ _ _ _ _ _ _ _ _ _ _ _ _ _ _ _ _ _ _ => by kernel_rfl
theorem ho_3_2_2_ttf : HoRun 3 2 2 (fun i => [true, true, false].getD i false) := fun _ _ _ _ _ _ _ _ _ _ _ _ _ _ _ _ _ _ _ _ => by kernel_rfl
theorem ho_3_2_2_ttt : HoRun 3 2 2 (fun i => [true, true, true].getD i false) := fun _ _ _ _ _ _ _ _ _ _ _ _ _ _ _ _ _ _ _ _ => by kernel_rfl
theorem ho_3_2_3_fff : HoRun 3 2 3 (fun i => [false, false, false].getD i false) := fun _ _ _ _ _ _ _ _ _ _ _ _ _ _ _ _ _ _ _ _ => by kernel_rfl
theorem ho_3_2_3_fft : HoRun 3 2 3 (fun i => [false, false, true].getD i false) := fun _ _ _ _ _ _ _ _ _ _ _ _ _ _ _ _ _ _ _ _ => by kernel_rfl
theorem ho_3_2_3_ftf : HoRun 3 2 3 (fun i => [false, true, false].getD i false) := fun _ _ _ _ _ _ _ _ _ _ _ _ _ _ _ _ _ _ _ _ => by kernel_rfl
theorem ho_3_2_3_ftt : HoRun 3 2 3 (fun i => [false, true, true].getD i false) := fun _ _ _ _ _ _ _ _ _ _ _ _ _ _ _ _ _ _ _ _ => by kernel_rfl
theorem ho_3_2_3_tff : HoRun 3 2 3 (fun i => [true, false, false].getD i false) := fun _ _ _ _ _ _ _ _ _ _ _ _ _ _ _ _ _ _ _ _ => by kernel_rfl
theorem ho_3_2_3_tft : HoRun 3 2 3 (fun i => [true, false, true].getD i false) := fun _ _ _ _ _ _ _ _ _ _ _ _ _ _ _ _ _ _ _ _ => by kernel_rfl
theorem ho_3_2_3_ttf : HoRun 3 2 3 (fun i => [true, true, false].getD i false) := fun _ _ _ _ _ _ _ _ _ _ _ _ _ _ _ _ _ _ _ _ => by kernel_rfl
theorem ho_3_2_3_ttt : HoRun 3 2 3 (fun i => [true, true, true].getD i false) := fun _ _ _ _ _ _ _ _ _ _ _ _ _ _ _ _ _ _ _ _ => by kernel_rfl
theorem ho_3_3_0_fff : HoRun 3 3 0 (fun i => [false, false, false].getD i false) := fun _ _ _ _ _ _ _ _ _ _ _ _ _ _ _ _ _ _ _ _ => by kernel_rfl
theorem ho_3_3_0_fft : HoRun 3 3 0 (fun i => [false, false, true].getD i false) := fun _ _ _ _ _ _ _ _ _ _ _ _ _ _ _ _ _ _ _ _ => by kernel_rfl
theorem ho_3_3_0_ftf : HoRun 3 3 0 (fun i => [false, true, false].getD i false) := fun _ _ _ _ _ _ _ _ _ _ _ _ _ _ _ _ _ _ _ _ => by kernel_rfl
theorem ho_3_3_0_ftt : HoRun 3 3 0 (fun i => [false, true, true].getD i false) := fun _ _ _ _ _ _ _ _ _ _ _ _ _ _ _ _ _ _ _ _ => by kernel_rfl
theorem ho_3_3_0_tff : HoRun 3 3 0 (fun i => [true, false, false].getD i false) := fun _ _ _ _ _ _ _ _ _ _ _ _ _ _ _ _ _ _ _ _ => by kernel_rfl
theorem ho_3_3_0_tft : HoRun 3 3 0 (fun i => [true, false, true].getD i false) := fun _ _ _ _ _ _ _ _ _ _ _ _ _ _ _ _ _ _ _ _ => by kernel_rfl
theorem ho_3_3_0_ttf : HoRun 3 3 0 (fun i => [true, true, false].getD i false) := fun _ _ _ _ _ _ _ _ _ _ _ _ _ _ _ _ _ _ _ _ => by kernel_rfl
theorem ho_3_3_0_ttt : HoRun 3 3 0 (fun i => [true, true, true].getD i false) := fun _ _ _ _ _ _ _ _ _ _ _ _ _ _ _ _ _ _ _ _ => by kernel_rfl
theorem ho_3_3_1_fff : HoRun 3 3 1 (fun i => [false, false, false].getD i false) := fun _ _ _ _ _ _ _ _ _ _ _ _ _ _ _ _ _ _ _ _ => by kernel_rfl
theorem ho_3_3_1_fft : HoRun 3 3 1 (fun i => [false, false, true].getD i false) := fun _ _ _ _ _ _ _ _ _ _ _ _ _ _ _ _ _ _ _ _ => by kernel_rfl
theorem ho_3_3_1_ftf : HoRun 3 3 1 (fun i => [false, true, false].getD i false) := fun _ _ _ _ _ _ _ _ _ _ _ _ _ _ _ _ _ _ _ _ => by kernel_rfl
theorem ho_3_3_1_ftt : HoRun 3 3 1 (fun i => [false, true, true].getD i false) := fun _ _ _ _ _ _ _ _ _ _ _ _ _ _ _ _ _ _ _ _ => by kernel_rfl
theorem ho_3_3_1_tff : HoRun 3 3 1 (fun i => [true, false, false].getD i false) := fun _ _ _ _ _ _ _ _ _ _ _ _ _ _ _ _ _ _ _ _ => by kernel_rfl
theorem ho_3_3_1_tft : HoRun 3 3 1 (fun i => [true, false, true].getD i false) := fun _ _ _ _ _ _ _ _ _ _ _ _ _ _ _ _ _ _ _ _ => by kernel_rfl
theorem ho_3_3_1_ttf : HoRun 3 3 1 (fun i => [true, true, false].getD i false) := fun _ _ _ _ _ _ _ _ _ _ _ _ _ _ _ _ _ _ _ _ => by kernel_rfl
theorem ho_3_3_1_ttt : HoRun 3 3 1 (fun i => [true, true, true].getD i false) := fun _ _ _ _ _ _ _ _ _ _ _ _ _ _ _ _ _ _ _ _ => by kernel_rfl
theorem ho_3_3_2_fff : HoRun 3 3 2 (fun i => [false, false, false].getD i false) := fun _ _ _ _ _ _ _ _ _ _ _ _ _ _ _ _ _ _ _ _ => by kernel_rfl
theorem ho_3_3_2_fft : HoRun 3 3 2 (fun i => [false, false, true].getD i false) := fun _ _ _ _ _ _ _ _ _ _ _ _ _ _ _ _ _ _ _ _ => by kernel_rfl
theorem ho_3_3_2_ftf : HoRun 3 3 2 (fun i => [false, true, false].getD i false) := fun _ _ _ _ _ _ _ _ _ _ _ _ _ _ _ _ _ _ _ _ => by kernel_rfl
theorem ho_3_3_2_ftt : HoRun 3 3 2 (fun i => [false, true, true].getD i false) := fun _ _ _ _ _ _ _ _ _ _ _ _ _ _ _ _ _ _ _ _ => by kernel_rfl
theorem ho_3_3_2_tff : HoRun 3 3 2 (fun i => [true, false, false].getD i false) := fun _ _ _ _ _ _ _ _ _ _ _ _ _ _ _ _ _ _ _ _ => by kernel_rfl
theorem ho_3_3_2_tft : HoRun 3 3 2 (fun i => [true, false, true].getD i false) := fun _ _ _ _ _ _ _ _ _ _ _ _ _ _ _ _ _ _ _ _ => by kernel_rfl
theorem ho_3_3_2_ttf : HoRun 3 3 2 (fun i => [true, true, false].getD i false) := fun _ _ _ _ _ _ _ _ _ _ _ _ _ _ _ _ _ _ _ _ => by kernel_rfl
theorem ho_3_3_2_ttt : HoRun 3 3 2 (fun i => [true, true, true].getD i false) := fun _ _ _ _ _ _ _ _ _ _ _ _ _ _ _ _ _ _ _ _ => by kernel_rfl
theorem ho_3_3_3_fff : HoRun 3 3 3 (fun i => [false, false, false].getD i false) := fun _ _ _ _ _ _ _ _ _ _ _ _ _ _ _ _ _ _ _ _ => by kernel_rfl
theorem ho_3_3_3_fft : HoRun 3 3 3 (fun i => [false, false, true].getD i false) := fun _ _ _ _ _ _ _ _ _ _ _ _ _ _ _ _ _ _ _ _ => by kernel_rfl
theorem ho_3_3_3_ftf : HoRun 3 3 3 (fun i => [false, true, false].getD i false) := fun _ _ _ _ _ _ _ _ _ _ _ _ _ _ _ _ _ _ _ _ => by kernel_rfl
theorem ho_3_3_3_ftt : HoRun 3 3 3 (fun i => [false, true, true].getD i false) := fun _ _ _ _ _ _ _ _ _ _ _ _ _ _ _ _ _ _ _ _ => by kernel_rfl
theorem ho_3_3_3_tff : HoRun 3 3 3 (fun i => [true, false, false].getD i false) := fun _ _ _ _ _ _ _ _ _ _ _ _ _ _ _ _ _ _ _ _ => by kernel_rfl
theorem ho_3_3_3_tft : HoRun 3 3 3 (fun i => [true, false, true].getD i false) := fun _ _ _ _ _ _ _ _ _ _ _ _ _ _ _ _ _ _ _ _ => by kernel_rfl
theorem ho_3_3_3_ttf : HoRun 3 3 3 (fun i => [true, true, false].getD i false) := fun _ _ _ _ _ _ _ _ _ _ _ _ _ _ _ _ _ _ _ _ => by kernel_rfl
theorem ho_3_3_3_ttt : HoRun 3 3 3 (fun i => [true, true, true].getD i false) := fun _ _ _ _ _ _ _ _ _ _ _ _ _ _ _ _ _ _ _ _ => by kernel_rfl
theorem hoC_3_0_0 (a b e : Bool) : HoRun 3 0 0 (fun i => [a, b, e].getD i false) := by
  cases a with
  | false =>
    cases b with
    | false =>
      cases e with
      | false =>
        exact ho_3_0_0_fff
      | true =>
        exact ho_3_0_0_fft
    | true =>
      cases e with
      | false =>
        exact ho_3_0_0_ftf
      | true =>
        exact ho_3_0_0_ftt
  | true =>
    cases b with
    | false =>
      cases e with
      | false =>
        exact ho_3_0_0_tff
      | true =>
        exact ho_3_0_0_tft
    | true =>
      cases e with
      | false =>
        exact ho_3_0_0_ttf
      | true =>
        exact ho_3_0_0_ttt
theorem hoC_3_0_1 (a b e : Bool) : HoRun 3 0 1 (fun i => [a, b, e].getD i false) := by
  cases a with
  | false =>
    cases b with
    | false =>
      cases e with
      | false =>
        exact ho_3_0_1_fff
      | true =>
        exact ho_3_0_1_fft
    | true =>
      cases e with
      | false =>
        exact ho_3_0_1_ftf
      | true =>
        exact ho_3_0_1_ftt
  | true =>
    cases b with
    | false =>
      cases e with
      | false =>
        exact ho_3_0_1_tff
      | true =>
        exact ho_3_0_1_tft
    | true =>
      cases e with
      | false =>
        exact ho_3_0_1_ttf
      | true =>
        exact ho_3_0_1_ttt
theorem hoC_3_0_2 (a b e : Bool) : HoRun 3 0 2 (fun i => [a, b, e].getD i false) := by
  cases a with
  | false =>
    cases b with
    | false =>
      cases e with
      | false =>
        exact ho_3_0_2_fff
      | true =>
        exact ho_3_0_2_fft
    | true =>
      cases e with
      | false =>
        exact ho_3_0_2_ftf
      | true =>
        exact ho_3_0_2_ftt
  | true =>
    cases b with
    | false =>
      cases e with
      | false =>
        exact ho_3_0_2_tff
      | true =>
        exact ho_3_0_2_tft
    | true =>
      cases e with
      | false =>
        exact ho_3_0_2_ttf
      | true =>
        exact ho_3_0_2_ttt
theorem hoC_3_0_3 (a b e : Bool) : HoRun 3 0 3 (fun i => [a, b, e].getD i false) := by
  cases a with
  | false =>
    cases b with
    | false =>
      cases e with
      | false =>
        exact ho_3_0_3_fff
      | true =>
        exact ho_3_0_3_fft
    | true =>
      cases e with
      | false =>
        exact ho_3_0_3_ftf
      | true =>
        exact ho_3_0_3_ftt
  | true =>
    cases b with
    | false =>
      cases e with
      | false =>
        exact ho_3_0_3_tff
      | true =>
        exact ho_3_0_3_tft
    | true =>
      cases e with
      | false =>
        exact ho_3_0_3_ttf
      | true =>
        exact ho_3_0_3_ttt
theorem hoC_3_1_0 (a b e : Bool) : HoRun 3 1 0 (fun i => [a, b, e].getD i false) := by
  cases a with
  | false =>
    cases b with
    | false =>
      cases e with
      | false =>
        exact ho_3_1_0_fff
      | true =>
        exact ho_3_1_0_fft
    | true =>
      cases e with
      | false =>
        exact ho_3_1_0_ftf
      | true =>
        exact ho_3_1_0_ftt
  | true =>
    cases b with
    | false =>
      cases e with
      | false =>
        exact ho_3_1_0_tff
      | true =>
        exact ho_3_1_0_tft
    | true =>
      cases e with
      | false =>
        exact ho_3_1_0_ttf
      | true =>
        exact ho_3_1_0_ttt
theorem hoC_3_1_1 (a b e : Bool) : HoRun 3 1 1 (fun i => [a, b, e].getD i false) := by
  cases a with
  | false =>
    cases b with
    | false =>
      cases e with
      | false =>
        exact ho_3_1_1_fff
      | true =>
        exact ho_3_1_1_fft
    | true =>
      cases e with
      | false =>
        exact ho_3_1_1_ftf
      | true =>
        exact ho_3_1_1_ftt
  | true =>
    cases b with
    | false =>
      cases e with
      | false =>
        exact ho_3_1_1_tff
      | true =>
        exact ho_3_1_1_tft
    | true =>
      cases e with
      | false =>
        exact ho_3_1_1_ttf
      | true =>
        exact ho_3_1_1_ttt
theorem hoC_3_1_2 (a b e : Bool) : HoRun 3 1 2 (fun i => [a, b, e].getD i false) := by
  cases a with
  | false =>
    cases b with
    | false =>
      cases e with
      | false =>
        exact ho_3_1_2_fff
      | true =>
        exact ho_3_1_2_fft
    | true =>
      cases e with
      | false =>
        exact ho_3_1_2_ftf
      | true =>
        exact ho_3_1_2_ftt
  | true =>
    cases b with
    | false =>
      cases e with
      | false =>
        exact ho_3_1_2_tff
      | true =>
        exact ho_3_1_2_tft
    | true =>
      cases e with
      | false =>
        exact ho_3_1_2_ttf
      | true =>
        exact ho_3_1_2_ttt
theorem hoC_3_1_3 (a b e : Bool) : HoRun 3 1 3 (fun i => [a, b, e].getD i false) := by
  cases a with
  | false =>
    cases b with
    | false =>
      cases e with
      | false =>
        exact ho_3_1_3_fff
      | true =>
        exact ho_3_1_3_fft
    | true =>
      cases e with
      | false =>
        exact ho_3_1_3_ftf
      | true =>
        exact ho_3_1_3_ftt
  | true =>
    cases b with
    | false =>
      cases e with
      | false =>
        exact ho_3_1_3_tff
      | true =>
        exact ho_3_1_3_tft
    | true =>
      cases e with
      | false =>
        exact ho_3_1_3_ttf
      | true =>
        exact ho_3_1_3_ttt
theorem hoC_3_2_0 (a b e : Bool) : HoRun 3 2 0 (fun i => [a, b, e].getD i false) := by
  cases a with
  | false =>
    cases b with
    | false =>
      cases e with
      | false =>
        exact ho_3_2_0_fff
      | true =>
        exact ho_3_2_0_fft
    | true =>
      cases e with
      | false =>
        exact ho_3_2_0_ftf
      | true =>
        exact ho_3_2_0_ftt
  | true =>
    cases b with
    | false =>
      cases e with
      | false =>
        exact ho_3_2_0_tff
      | true =>
        exact ho_3_2_0_tft
    | true =>
      cases e with
      | false =>
        exact ho_3_2_0_ttf
      | true =>
        exact ho_3_2_0_ttt
theorem hoC_3_2_1 (a b e : Bool) : HoRun 3 2 1 (fun i => [a, b, e].getD i false) := by
  cases a with
  | false =>
    cases b with
    | false =>
      cases e with
      | false =>
        exact ho_3_2_1_fff
      | true =>
        exact ho_3_2_1_fft
    | true =>
      cases e with
      | false =>
        exact ho_3_2_1_ftf
      | true =>
        exact ho_3_2_1_ftt
  | true =>
    cases b with
    | false =>
      cases e with
      | false =>
        exact ho_3_2_1_tff
      | true =>
        exact ho_3_2_1_tft
    | true =>
      cases e with
      | false =>
        exact ho_3_2_1_ttf
      | true =>
        exact ho_3_2_1_ttt
theorem hoC_3_2_2 (a b e : Bool) : HoRun 3 2 2 (fun i => [a, b, e].getD i false) := by
  cases a with
  | false =>
    cases b with
    | false =>
      cases e with
      | false =>
        exact ho_3_2_2_fff
      | true =>
        exact ho_3_2_2_fft
    | true =>
      cases e with
      | false =>
        exact ho_3_2_2_ftf
      | true =>
        exact ho_3_2_2_ftt
  | true =>
    cases b with
    | false =>
      cases e with
      | false =>
        exact ho_3_2_2_tff
      | true =>
        exact ho_3_2_2_tft
    | true =>
      cases e with
      | false =>
        exact ho_3_2_2_ttf
      | true =>
        exact ho_3_2_2_ttt
theorem hoC_3_2_3 (a b e : Bool) : HoRun 3 2 3 (fun i => [a, b, e].getD i false) := by
  cases a with
  | false =>
    cases b with
    | false =>
      cases e with
      | false =>
        exact ho_3_2_3_fff
      | true =>
        exact ho_3_2_3_fft
    | true =>
      cases e with
      | false =>
        exact ho_3_2_3_ftf
      | true =>
        exact ho_3_2_3_ftt
  | true =>
    cases b with
    | false =>
      cases e with
      | false =>
        exact ho_3_2_3_tff
      | true =>
        exact ho_3_2_3_tft
    | true =>
      cases e with
      | false =>
        exact ho_3_2_3_ttf
      | true =>
        exact ho_3_2_3_ttt
theorem hoC_3_3_0 (a b e : Bool) : HoRun 3 3 0 (fun i => [a, b, e].getD i false) := by
  cases a with
  | false =>
    cases b with
    | false =>
      cases e with
      | false =>
        exact ho_3_3_0_fff
      | true =>
        exact ho_3_3_0_fft
    | true =>
      cases e with
      | false =>
        exact ho_3_3_0_ftf
      | true =>
        exact ho_3_3_0_ftt
  | true =>
    cases b with
    | false =>
      cases e with
      | false =>
        exact ho_3_3_0_tff
      | true =>
        exact ho_3_3_0_tft
    | true =>
      cases e with
      | false =>
        exact ho_3_3_0_ttf
      | true =>
        exact ho_3_3_0_ttt
theorem hoC_3_3_1 (a b e : Bool) : HoRun 3 3 1 (fun i => [a, b, e].getD i false) := by
  cases a with
  | false =>
    cases b with
    | false =>
      cases e with
      | false =>
        exact ho_3_3_1_fff
      | true =>
        exact ho_3_3_1_fft
    | true =>
      cases e with
      | false =>
        exact ho_3_3_1_ftf
      | true =>
        exact ho_3_3_1_ftt
  | true =>
    cases b with
    | false =>
      cases e with
      | false =>
        exact ho_3_3_1_tff
      | true =>
        exact ho_3_3_1_tft
    | true =>
      cases e with
      | false =>
        exact ho_3_3_1_ttf
      | true =>
        exact ho_3_3_1_ttt
theorem hoC_3_3_2 (a b e : Bool) : HoRun 3 3 2 (fun i => [a, b, e].getD i false) := by
  cases a with
  | false =>
    cases b with
    | false =>
      cases e with
      | false =>
        exact ho_3_3_2_fff
      | true =>
        exact ho_3_3_2_fft
    | true =>
      cases e with
      | false =>
        exact ho_3_3_2_ftf
      | true =>
        exact ho_3_3_2_ftt
  | true =>
    cases b with
    | false =>
      cases e with
      | false =>
        exact ho_3_3_2_tff
      | true =>
        exact ho_3_3_2_tft
    | true =>
      cases e with
      | false =>
        exact ho_3_3_2_ttf
      | true =>
        exact ho_3_3_2_ttt
theorem hoC_3_3_3 (a b e : Bool) : HoRun 3 3 3 (fun i => [a, b, e].getD i false) := by
  cases a with
  | false =>
    cases b with
    | false =>
      cases e with
      | false =>
        exact ho_3_3_3_fff
      | true =>
        exact ho_3_3_3_fft
    | true =>
      cases e with
      | false =>
        exact ho_3_3_3_ftf
      | true =>
        exact ho_3_3_3_ftt
  | true =>
    cases b with
    | false =>
      cases e with
      | false =>
        exact ho_3_3_3_tff
      | true =>
        exact ho_3_3_3_tft
    | true =>
      cases e with
      | false =>
        exact ho_3_3_3_ttf
      | true =>
        exact ho_3_3_3_ttt
theorem hoA_3 : ∀ (lm lw : Nat), lm ≤ 3 → lw ≤ 3 → ∀ (a b e : Bool), HoRun 3 lm lw (fun i => [a, b, e].getD i false)
  | 0, 0, _, _ => hoC_3_0_0
  | 0, 1, _, _ => hoC_3_0_1
  | 0, 2, _, _ => hoC_3_0_2
  | 0, 3, _, _ => hoC_3_0_3
  | 1, 0, _, _ => hoC_3_1_0
  | 1, 1, _, _ => hoC_3_1_1
  | 1, 2, _, _ => hoC_3_1_2
  | 1, 3, _, _ => hoC_3_1_3
  | 2, 0, _, _ => hoC_3_2_0
  | 2, 1, _, _ => hoC_3_2_1
  | 2, 2, _, _ => hoC_3_2_2
  | 2, 3, _, _ => hoC_3_2_3
  | 3, 0, _, _ => hoC_3_3_0
  | 3, 1, _, _ => hoC_3_3_1
  | 3, 2, _, _ => hoC_3_3_2
  | 3, 3, _, _ => hoC_3_3_3
  | a + 4, _, h, _ => absurd h (by omega)
  | _, b + 4, _, h => absurd h (by omega)

end Go.Proofs.Ytpmdpbljgidllaa
