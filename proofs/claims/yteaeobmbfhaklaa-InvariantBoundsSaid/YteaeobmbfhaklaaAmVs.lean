/- The slim code, for running, of functions of the given program; that it is theirs is checked. -/
import Derived.Test.YteaeobmbfhaklaaAmS
import Derived.Test.YteaeobmbfhaklaaAmVsa
import Derived.Test.YteaeobmbfhaklaaProg
import Derived.KernelRfl
set_option maxRecDepth 100000
namespace Go.AM.FV
open Go.Proofs
def ft : FT2 := (.n 59 (.n 40 (.n 29 (.n 15 (.n 14 (.l 12 f12) (.l 14 f14)) (.n 23 (.l 15 f15) (.n 24 (.l 23 f23) (.l 24 f24)))) (.n 37 (.n 30 (.l 29 f29) (.l 30 f30)) (.n 38 (.l 37 f37) (.n 39 (.l 38 f38) (.l 39 f39))))) (.n 48 (.n 45 (.n 41 (.l 40 f40) (.l 41 f41)) (.n 46 (.l 45 f45) (.n 47 (.l 46 f46) (.l 47 f47)))) (.n 50 (.n 49 (.l 48 f48) (.l 49 f49)) (.n 57 (.l 50 f50) (.n 58 (.l 57 f57) (.l 58 f58)))))) (.n 72 (.n 66 (.n 61 (.n 60 (.l 59 f59) (.l 60 f60)) (.n 62 (.l 61 f61) (.n 63 (.l 62 f62) (.l 63 f63)))) (.n 69 (.n 67 (.l 66 f66) (.l 67 f67)) (.n 70 (.l 69 f69) (.n 71 (.l 70 f70) (.l 71 f71))))) (.n 77 (.n 74 (.n 73 (.l 72 f72) (.l 73 f73)) (.n 75 (.l 74 f74) (.n 76 (.l 75 f75) (.l 76 f76)))) (.n 81 (.n 80 (.l 77 f77) (.l 80 f80)) (.n 82 (.l 81 f81) (.n 83 (.l 82 f82) (.l 83 f83)))))))

theorem okf12 : okFn Try.prog 12 f12.slim = true := by kernel_rfl
theorem okf14 : okFn Try.prog 14 f14.slim = true := by kernel_rfl
theorem okf15 : okFn Try.prog 15 f15.slim = true := by kernel_rfl
theorem okf23 : okFn Try.prog 23 f23.slim = true := by kernel_rfl
theorem okf24 : okFn Try.prog 24 f24.slim = true := by kernel_rfl
theorem okf29 : okFn Try.prog 29 f29.slim = true := by kernel_rfl
theorem okf30 : okFn Try.prog 30 f30.slim = true := by kernel_rfl
theorem okf37 : okFn Try.prog 37 f37.slim = true := by kernel_rfl
theorem okf38 : okFn Try.prog 38 f38.slim = true := by kernel_rfl
theorem okf39 : okFn Try.prog 39 f39.slim = true := by kernel_rfl
theorem okf40 : okFn Try.prog 40 f40.slim = true := by kernel_rfl
theorem okf41 : okFn Try.prog 41 f41.slim = true := by kernel_rfl
theorem okf45 : okFn Try.prog 45 f45.slim = true := by kernel_rfl
theorem okf46 : okFn Try.prog 46 f46.slim = true := by kernel_rfl
theorem okf47 : okFn Try.prog 47 f47.slim = true := by kernel_rfl
theorem okf48 : okFn Try.prog 48 f48.slim = true := by kernel_rfl
theorem okf49 : okFn Try.prog 49 f49.slim = true := by kernel_rfl
theorem okf50 : okFn Try.prog 50 f50.slim = true := by kernel_rfl
theorem okf57 : okFn Try.prog 57 f57.slim = true := by kernel_rfl
theorem okf58 : okFn Try.prog 58 f58.slim = true := by kernel_rfl
theorem okf59 : okFn Try.prog 59 f59.slim = true := by kernel_rfl
theorem okf60 : okFn Try.prog 60 f60.slim = true := by kernel_rfl
theorem okf61 : okFn Try.prog 61 f61.slim = true := by kernel_rfl
theorem okf62 : okFn Try.prog 62 f62.slim = true := by kernel_rfl
theorem okf63 : okFn Try.prog 63 f63.slim = true := by kernel_rfl
theorem okf66 : okFn Try.prog 66 f66.slim = true := by kernel_rfl
theorem okf67 : okFn Try.prog 67 f67.slim = true := by kernel_rfl
theorem okf69 : okFn Try.prog 69 f69.slim = true := by kernel_rfl
theorem okf70 : okFn Try.prog 70 f70.slim = true := by kernel_rfl
theorem okf71 : okFn Try.prog 71 f71.slim = true := by kernel_rfl
theorem okf72 : okFn Try.prog 72 f72.slim = true := by kernel_rfl
theorem okf73 : okFn Try.prog 73 f73.slim = true := by kernel_rfl
theorem okf74 : okFn Try.prog 74 f74.slim = true := by kernel_rfl
theorem okf75 : okFn Try.prog 75 f75.slim = true := by kernel_rfl
theorem okf76 : okFn Try.prog 76 f76.slim = true := by kernel_rfl
theorem okf77 : okFn Try.prog 77 f77.slim = true := by kernel_rfl
theorem okf80 : okFn Try.prog 80 f80.slim = true := by kernel_rfl
theorem okf81 : okFn Try.prog 81 f81.slim = true := by kernel_rfl
theorem okf82 : okFn Try.prog 82 f82.slim = true := by kernel_rfl
theorem okf83 : okFn Try.prog 83 f83.slim = true := by kernel_rfl
theorem ft_ok : ft.OK Try.prog := ⟨⟨⟨⟨⟨okf12, okf14⟩, ⟨okf15, ⟨okf23, okf24⟩⟩⟩, ⟨⟨okf29, okf30⟩, ⟨okf37, ⟨okf38, okf39⟩⟩⟩⟩, ⟨⟨⟨okf40, okf41⟩, ⟨okf45, ⟨okf46, okf47⟩⟩⟩, ⟨⟨okf48, okf49⟩, ⟨okf50, ⟨okf57, okf58⟩⟩⟩⟩⟩, ⟨⟨⟨⟨okf59, okf60⟩, ⟨okf61, ⟨okf62, okf63⟩⟩⟩, ⟨⟨okf66, okf67⟩, ⟨okf69, ⟨okf70, okf71⟩⟩⟩⟩, ⟨⟨⟨okf72, okf73⟩, ⟨okf74, ⟨okf75, okf76⟩⟩⟩, ⟨⟨okf77, okf80⟩, ⟨okf81, ⟨okf82, okf83⟩⟩⟩⟩⟩⟩

end Go.AM.FV
