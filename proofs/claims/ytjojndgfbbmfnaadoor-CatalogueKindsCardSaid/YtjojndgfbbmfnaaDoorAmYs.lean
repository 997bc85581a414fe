/- The slim code, for running, of functions of the given program; that it is theirs is checked. -/
import Derived.Test.YtjojndgfbbmfnaaDoorAmS
import Derived.Test.YtjojndgfbbmfnaaDoorAmYsa
import Derived.Test.YtjojndgfbbmfnaaDoorAmYsb
import Derived.Test.YtjojndgfbbmfnaaDoorProg
import Derived.KernelRfl
set_option maxRecDepth 100000
namespace Go.AM.FD
open Go.Proofs
def ft : FT2 := (.n 58 (.n 29 (.n 13 (.n 8 (.n 5 (.n 4 (.l 3 f3) (.l 4 f4)) (.n 7 (.l 5 f5) (.l 7 f7))) (.n 10 (.n 9 (.l 8 f8) (.l 9 f9)) (.n 11 (.l 10 f10) (.n 12 (.l 11 f11) (.l 12 f12))))) (.n 17 (.n 15 (.n 14 (.l 13 f13) (.l 14 f14)) (.n 16 (.l 15 f15) (.l 16 f16))) (.n 20 (.n 18 (.l 17 f17) (.l 18 f18)) (.n 27 (.l 20 f20) (.n 28 (.l 27 f27) (.l 28 f28)))))) (.n 38 (.n 33 (.n 31 (.n 30 (.l 29 f29) (.l 30 f30)) (.n 32 (.l 31 f31) (.l 32 f32))) (.n 35 (.n 34 (.l 33 f33) (.l 34 f34)) (.n 36 (.l 35 f35) (.n 37 (.l 36 f36) (.l 37 f37))))) (.n 43 (.n 40 (.n 39 (.l 38 f38) (.l 39 f39)) (.n 41 (.l 40 f40) (.n 42 (.l 41 f41) (.l 42 f42)))) (.n 45 (.n 44 (.l 43 f43) (.l 44 f44)) (.n 46 (.l 45 f45) (.n 51 (.l 46 f46) (.l 51 f51))))))) (.n 94 (.n 85 (.n 62 (.n 60 (.n 59 (.l 58 f58) (.l 59 f59)) (.n 61 (.l 60 f60) (.l 61 f61))) (.n 71 (.n 70 (.l 62 f62) (.l 70 f70)) (.n 72 (.l 71 f71) (.n 84 (.l 72 f72) (.l 84 f84))))) (.n 89 (.n 87 (.n 86 (.l 85 f85) (.l 86 f86)) (.n 88 (.l 87 f87) (.l 88 f88))) (.n 91 (.n 90 (.l 89 f89) (.l 90 f90)) (.n 92 (.l 91 f91) (.n 93 (.l 92 f92) (.l 93 f93)))))) (.n 109 (.n 104 (.n 102 (.n 95 (.l 94 f94) (.l 95 f95)) (.n 103 (.l 102 f102) (.l 103 f103))) (.n 106 (.n 105 (.l 104 f104) (.l 105 f105)) (.n 107 (.l 106 f106) (.n 108 (.l 107 f107) (.l 108 f108))))) (.n 115 (.n 111 (.n 110 (.l 109 f109) (.l 110 f110)) (.n 113 (.l 111 f111) (.n 114 (.l 113 f113) (.l 114 f114)))) (.n 117 (.n 116 (.l 115 f115) (.l 116 f116)) (.n 119 (.l 117 f117) (.n 120 (.l 119 f119) (.l 120 f120))))))))

theorem okf3 : okFn Tryd.prog 3 f3.slim = true := by kernel_rfl
theorem okf4 : okFn Tryd.prog 4 f4.slim = true := by kernel_rfl
theorem okf5 : okFn Tryd.prog 5 f5.slim = true := by kernel_rfl
theorem okf7 : okFn Tryd.prog 7 f7.slim = true := by kernel_rfl
theorem okf8 : okFn Tryd.prog 8 f8.slim = true := by kernel_rfl
theorem okf9 : okFn Tryd.prog 9 f9.slim = true := by kernel_rfl
theorem okf10 : okFn Tryd.prog 10 f10.slim = true := by kernel_rfl
theorem okf11 : okFn Tryd.prog 11 f11.slim = true := by kernel_rfl
theorem okf12 : okFn Tryd.prog 12 f12.slim = true := by kernel_rfl
theorem okf13 : okFn Tryd.prog 13 f13.slim = true := by kernel_rfl
theorem okf14 : okFn Tryd.prog 14 f14.slim = true := by kernel_rfl
theorem okf15 : okFn Tryd.prog 15 f15.slim = true := by kernel_rfl
theorem okf16 : okFn Tryd.prog 16 f16.slim = true := by kernel_rfl
theorem okf17 : okFn Tryd.prog 17 f17.slim = true := by kernel_rfl
theorem okf18 : okFn Tryd.prog 18 f18.slim = true := by kernel_rfl
theorem okf20 : okFn Tryd.prog 20 f20.slim = true := by kernel_rfl
theorem okf27 : okFn Tryd.prog 27 f27.slim = true := by kernel_rfl
theorem okf28 : okFn Tryd.prog 28 f28.slim = true := by kernel_rfl
theorem okf29 : okFn Tryd.prog 29 f29.slim = true := by kernel_rfl
theorem okf30 : okFn Tryd.prog 30 f30.slim = true := by kernel_rfl
theorem okf31 : okFn Tryd.prog 31 f31.slim = true := by kernel_rfl
theorem okf32 : okFn Tryd.prog 32 f32.slim = true := by kernel_rfl
theorem okf33 : okFn Tryd.prog 33 f33.slim = true := by kernel_rfl
theorem okf34 : okFn Tryd.prog 34 f34.slim = true := by kernel_rfl
theorem okf35 : okFn Tryd.prog 35 f35.slim = true := by kernel_rfl
theorem okf36 : okFn Tryd.prog 36 f36.slim = true := by kernel_rfl
theorem okf37 : okFn Tryd.prog 37 f37.slim = true := by kernel_rfl
theorem okf38 : okFn Tryd.prog 38 f38.slim = true := by kernel_rfl
theorem okf39 : okFn Tryd.prog 39 f39.slim = true := by kernel_rfl
theorem okf40 : okFn Tryd.prog 40 f40.slim = true := by kernel_rfl
theorem okf41 : okFn Tryd.prog 41 f41.slim = true := by kernel_rfl
theorem okf42 : okFn Tryd.prog 42 f42.slim = true := by kernel_rfl
theorem okf43 : okFn Tryd.prog 43 f43.slim = true := by kernel_rfl
theorem okf44 : okFn Tryd.prog 44 f44.slim = true := by kernel_rfl
theorem okf45 : okFn Tryd.prog 45 f45.slim = true := by kernel_rfl
theorem okf46 : okFn Tryd.prog 46 f46.slim = true := by kernel_rfl
theorem okf51 : okFn Tryd.prog 51 f51.slim = true := by kernel_rfl
theorem okf58 : okFn Tryd.prog 58 f58.slim = true := by kernel_rfl
theorem okf59 : okFn Tryd.prog 59 f59.slim = true := by kernel_rfl
theorem okf60 : okFn Tryd.prog 60 f60.slim = true := by kernel_rfl
theorem okf61 : okFn Tryd.prog 61 f61.slim = true := by kernel_rfl
theorem okf62 : okFn Tryd.prog 62 f62.slim = true := by kernel_rfl
theorem okf70 : okFn Tryd.prog 70 f70.slim = true := by kernel_rfl
theorem okf71 : okFn Tryd.prog 71 f71.slim = true := by kernel_rfl
theorem okf72 : okFn Tryd.prog 72 f72.slim = true := by kernel_rfl
theorem okf84 : okFn Tryd.prog 84 f84.slim = true := by kernel_rfl
theorem okf85 : okFn Tryd.prog 85 f85.slim = true := by kernel_rfl
theorem okf86 : okFn Tryd.prog 86 f86.slim = true := by kernel_rfl
theorem okf87 : okFn Tryd.prog 87 f87.slim = true := by kernel_rfl
theorem okf88 : okFn Tryd.prog 88 f88.slim = true := by kernel_rfl
theorem okf89 : okFn Tryd.prog 89 f89.slim = true := by kernel_rfl
theorem okf90 : okFn Tryd.prog 90 f90.slim = true := by kernel_rfl
theorem okf91 : okFn Tryd.prog 91 f91.slim = true := by kernel_rfl
theorem okf92 : okFn Tryd.prog 92 f92.slim = true := by kernel_rfl
theorem okf93 : okFn Tryd.prog 93 f93.slim = true := by kernel_rfl
theorem okf94 : okFn Tryd.prog 94 f94.slim = true := by kernel_rfl
theorem okf95 : okFn Tryd.prog 95 f95.slim = true := by kernel_rfl
theorem okf102 : okFn Tryd.prog 102 f102.slim = true := by kernel_rfl
theorem okf103 : okFn Tryd.prog 103 f103.slim = true := by kernel_rfl
theorem okf104 : okFn Tryd.prog 104 f104.slim = true := by kernel_rfl
theorem okf105 : okFn Tryd.prog 105 f105.slim = true := by kernel_rfl
theorem okf106 : okFn Tryd.prog 106 f106.slim = true := by kernel_rfl
theorem okf107 : okFn Tryd.prog 107 f107.slim = true := by kernel_rfl
theorem okf108 : okFn Tryd.prog 108 f108.slim = true := by kernel_rfl
theorem okf109 : okFn Tryd.prog 109 f109.slim = true := by kernel_rfl
theorem okf110 : okFn Tryd.prog 110 f110.slim = true := by kernel_rfl
theorem okf111 : okFn Tryd.prog 111 f111.slim = true := by kernel_rfl
theorem okf113 : okFn Tryd.prog 113 f113.slim = true := by kernel_rfl
theorem okf114 : okFn Tryd.prog 114 f114.slim = true := by kernel_rfl
theorem okf115 : okFn Tryd.prog 115 f115.slim = true := by kernel_rfl
theorem okf116 : okFn Tryd.prog 116 f116.slim = true := by kernel_rfl
theorem okf117 : okFn Tryd.prog 117 f117.slim = true := by kernel_rfl
theorem okf119 : okFn Tryd.prog 119 f119.slim = true := by kernel_rfl
theorem okf120 : okFn Tryd.prog 120 f120.slim = true := by kernel_rfl
theorem ft_ok : ft.OK Tryd.prog := ⟨⟨⟨⟨⟨⟨okf3, okf4⟩, ⟨okf5, okf7⟩⟩, ⟨⟨okf8, okf9⟩, ⟨okf10, ⟨okf11, okf12⟩⟩⟩⟩, ⟨⟨⟨okf13, okf14⟩, ⟨okf15, okf16⟩⟩, ⟨⟨okf17, okf18⟩, ⟨okf20, ⟨okf27, okf28⟩⟩⟩⟩⟩, ⟨⟨⟨⟨okf29, okf30⟩, ⟨okf31, okf32⟩⟩, ⟨⟨okf33, okf34⟩, ⟨okf35, ⟨okf36, okf37⟩⟩⟩⟩, ⟨⟨⟨okf38, okf39⟩, ⟨okf40, ⟨okf41, okf42⟩⟩⟩, ⟨⟨okf43, okf44⟩, ⟨okf45, ⟨okf46, okf51⟩⟩⟩⟩⟩⟩, ⟨⟨⟨⟨⟨okf58, okf59⟩, ⟨okf60, okf61⟩⟩, ⟨⟨okf62, okf70⟩, ⟨okf71, ⟨okf72, okf84⟩⟩⟩⟩, ⟨⟨⟨okf85, okf86⟩, ⟨okf87, okf88⟩⟩, ⟨⟨okf89, okf90⟩, ⟨okf91, ⟨okf92, okf93⟩⟩⟩⟩⟩, ⟨⟨⟨⟨okf94, okf95⟩, ⟨okf102, okf103⟩⟩, ⟨⟨okf104, okf105⟩, ⟨okf106, ⟨okf107, okf108⟩⟩⟩⟩, ⟨⟨⟨okf109, okf110⟩, ⟨okf111, ⟨okf113, okf114⟩⟩⟩, ⟨⟨okf115, okf116⟩, ⟨okf117, ⟨okf119, okf120⟩⟩⟩⟩⟩⟩⟩

end Go.AM.FD
