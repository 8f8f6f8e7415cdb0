/- Facts on the types of the program: how many cells a type has, its zero value; each reckoned by the kernel. -/
import Derived.Test.YtbofobkpplncaaaProg
import Derived.Test.YtbofobkpplncaaaM
import Derived.KernelRfl
set_option maxRecDepth 100000
namespace Go.Proofs.Ytbofobkpplncaaa
open Go.RowKit
theorem s1 : (Try.prog.info? 1).map (·.size) = some 1 := by kernel_rfl
theorem s2 : (Try.prog.info? 2).map (·.size) = some 1 := by kernel_rfl
theorem i2 : (Try.prog.info? 2).map (fun i => (i.zero, i.size, i.bytes)) = some (some (.int .i64 0), 1, 8) := by kernel_rfl
theorem s3 : (Try.prog.info? 3).map (·.size) = some 1 := by kernel_rfl
theorem i3 : (Try.prog.info? 3).map (fun i => (i.zero, i.size, i.bytes)) = some (some (.int .i64 0), 1, 8) := by kernel_rfl
theorem s4 : (Try.prog.info? 4).map (·.size) = some 1 := by kernel_rfl
theorem s5 : (Try.prog.info? 5).map (·.size) = some 1 := by kernel_rfl
theorem i5 : (Try.prog.info? 5).map (fun i => (i.zero, i.size, i.bytes)) = some (some (.int .u8 0), 1, 1) := by kernel_rfl
theorem s6 : (Try.prog.info? 6).map (·.size) = some 1 := by kernel_rfl
theorem i6 : (Try.prog.info? 6).map (fun i => (i.zero, i.size, i.bytes)) = some (some (.int .u8 0), 1, 1) := by kernel_rfl
theorem s9 : (Try.prog.info? 9).map (·.size) = some 1 := by kernel_rfl
theorem i9 : (Try.prog.info? 9).map (fun i => (i.zero, i.size, i.bytes)) = some (some (.string ByteArray.empty), 1, 16) := by kernel_rfl
theorem s10 : (Try.prog.info? 10).map (·.size) = some 1 := by kernel_rfl
theorem i10 : (Try.prog.info? 10).map (fun i => (i.zero, i.size, i.bytes)) = some (some (.string ByteArray.empty), 1, 16) := by kernel_rfl
theorem s11 : (Try.prog.info? 11).map (·.size) = some 1 := by kernel_rfl
theorem i11 : (Try.prog.info? 11).map (fun i => (i.zero, i.size, i.bytes)) = some (some (.string ByteArray.empty), 1, 16) := by kernel_rfl
theorem s12 : (Try.prog.info? 12).map (·.size) = some 1 := by kernel_rfl
theorem i12 : (Try.prog.info? 12).map (fun i => (i.zero, i.size, i.bytes)) = some (some (.int .u64 0), 1, 8) := by kernel_rfl
theorem s15 : (Try.prog.info? 15).map (·.size) = some 1 := by kernel_rfl
theorem s16 : (Try.prog.info? 16).map (·.size) = some 1 := by kernel_rfl
theorem s17 : (Try.prog.info? 17).map (·.size) = some 1 := by kernel_rfl
theorem s20 : (Try.prog.info? 20).map (·.size) = some 1 := by kernel_rfl
theorem s21 : (Try.prog.info? 21).map (·.size) = some 1 := by kernel_rfl
theorem i21 : (Try.prog.info? 21).map (fun i => (i.zero, i.size, i.bytes)) = some (some (.int .i32 0), 1, 4) := by kernel_rfl
theorem s22 : (Try.prog.info? 22).map (·.size) = some 1 := by kernel_rfl
theorem s23 : (Try.prog.info? 23).map (·.size) = some 1 := by kernel_rfl
theorem s24 : (Try.prog.info? 24).map (·.size) = some 1 := by kernel_rfl
theorem s25 : (Try.prog.info? 25).map (·.size) = some 1 := by kernel_rfl
theorem s29 : (Try.prog.info? 29).map (·.size) = some 1 := by kernel_rfl
theorem s34 : (Try.prog.info? 34).map (·.size) = some 1 := by kernel_rfl
theorem i34 : (Try.prog.info? 34).map (fun i => (i.zero, i.size, i.bytes)) = some (some (.int .i64 0), 1, 8) := by kernel_rfl
theorem s36 : (Try.prog.info? 36).map (·.size) = some 1 := by kernel_rfl
theorem s37 : (Try.prog.info? 37).map (·.size) = some 1 := by kernel_rfl
theorem s39 : (Try.prog.info? 39).map (·.size) = some 1 := by kernel_rfl
theorem s40 : (Try.prog.info? 40).map (·.size) = some 1 := by kernel_rfl
theorem s41 : (Try.prog.info? 41).map (·.size) = some 1 := by kernel_rfl
theorem s42 : (Try.prog.info? 42).map (·.size) = some 1 := by kernel_rfl
theorem s43 : (Try.prog.info? 43).map (·.size) = some 1 := by kernel_rfl
theorem s44 : (Try.prog.info? 44).map (·.size) = some 1 := by kernel_rfl
theorem s45 : (Try.prog.info? 45).map (·.size) = some 1 := by kernel_rfl
theorem s46 : (Try.prog.info? 46).map (·.size) = some 1 := by kernel_rfl
theorem s47 : (Try.prog.info? 47).map (·.size) = some 1 := by kernel_rfl
theorem s48 : (Try.prog.info? 48).map (·.size) = some 1 := by kernel_rfl
theorem s49 : (Try.prog.info? 49).map (·.size) = some 1 := by kernel_rfl
theorem s50 : (Try.prog.info? 50).map (·.size) = some 1 := by kernel_rfl
theorem s51 : (Try.prog.info? 51).map (·.size) = some 1 := by kernel_rfl
theorem s53 : (Try.prog.info? 53).map (·.size) = some 1 := by kernel_rfl
theorem s54 : (Try.prog.info? 54).map (·.size) = some 1 := by kernel_rfl
theorem s55 : (Try.prog.info? 55).map (·.size) = some 1 := by kernel_rfl
theorem s56 : (Try.prog.info? 56).map (·.size) = some 1 := by kernel_rfl
theorem s57 : (Try.prog.info? 57).map (·.size) = some 1 := by kernel_rfl
theorem s58 : (Try.prog.info? 58).map (·.size) = some 1 := by kernel_rfl
theorem s59 : (Try.prog.info? 59).map (·.size) = some 1 := by kernel_rfl
theorem s65 : (Try.prog.info? 65).map (·.size) = some 1 := by kernel_rfl
theorem s66 : (Try.prog.info? 66).map (·.size) = some 1 := by kernel_rfl
theorem i66 : (Try.prog.info? 66).map (fun i => (i.zero, i.size, i.bytes)) = some (some (.int .u32 0), 1, 4) := by kernel_rfl
theorem s67 : (Try.prog.info? 67).map (·.size) = some 1 := by kernel_rfl
theorem i67 : (Try.prog.info? 67).map (fun i => (i.zero, i.size, i.bytes)) = some (some (.int .u8 0), 1, 1) := by kernel_rfl
theorem s68 : (Try.prog.info? 68).map (·.size) = some 1 := by kernel_rfl
theorem i68 : (Try.prog.info? 68).map (fun i => (i.zero, i.size, i.bytes)) = some (some (.int .u8 0), 1, 1) := by kernel_rfl
theorem s69 : (Try.prog.info? 69).map (·.size) = some 1 := by kernel_rfl
theorem s70 : (Try.prog.info? 70).map (·.size) = some 1 := by kernel_rfl
theorem s71 : (Try.prog.info? 71).map (·.size) = some 1 := by kernel_rfl
theorem i71 : (Try.prog.info? 71).map (fun i => (i.zero, i.size, i.bytes)) = some (some (.int .i32 0), 1, 4) := by kernel_rfl
theorem s72 : (Try.prog.info? 72).map (·.size) = some 1 := by kernel_rfl
theorem i72 : (Try.prog.info? 72).map (fun i => (i.zero, i.size, i.bytes)) = some (some (.int .i32 0), 1, 4) := by kernel_rfl
end Go.Proofs.Ytbofobkpplncaaa
