/- Facts on the types of the program: how many cells a type has, its zero value; each reckoned by the kernel. -/
import Derived.Test.YtcapfnbmmdbcoaaProg
import Derived.Test.YtcapfnbmmdbcoaaM
import Derived.KernelRfl
set_option maxRecDepth 100000
namespace Go.Proofs.Ytcapfnbmmdbcoaa
open Go.RowKit
theorem s1 : (Try.prog.info? 1).map (·.size) = some 1 := by kernel_rfl
theorem s2 : (Try.prog.info? 2).map (·.size) = some 1 := by kernel_rfl
theorem i2 : (Try.prog.info? 2).map (fun i => (i.zero, i.size, i.bytes)) = some (some (.int .i64 0), 1, 8) := by kernel_rfl
theorem s3 : (Try.prog.info? 3).map (·.size) = some 1 := by kernel_rfl
theorem i3 : (Try.prog.info? 3).map (fun i => (i.zero, i.size, i.bytes)) = some (some (.int .i64 0), 1, 8) := by kernel_rfl
theorem s4 : (Try.prog.info? 4).map (·.size) = some 1 := by kernel_rfl
theorem s5 : (Try.prog.info? 5).map (·.size) = some 1 := by kernel_rfl
theorem i5 : (Try.prog.info? 5).map (fun i => (i.zero, i.size, i.bytes)) = some (some (.int .u8 0), 1, 1) := by kernel_rfl
theorem s6 : (Try.prog.info? 6).map (·.size) = some 1 := by kernel_rfl
theorem i6 : (Try.prog.info? 6).map (fun i => (i.zero, i.size, i.bytes)) = some (some (.int .u8 0), 1, 1) := by kernel_rfl
theorem s9 : (Try.prog.info? 9).map (·.size) = some 1 := by kernel_rfl
theorem i9 : (Try.prog.info? 9).map (fun i => (i.zero, i.size, i.bytes)) = some (some (.string ByteArray.empty), 1, 16) := by kernel_rfl
theorem s10 : (Try.prog.info? 10).map (·.size) = some 1 := by kernel_rfl
theorem i10 : (Try.prog.info? 10).map (fun i => (i.zero, i.size, i.bytes)) = some (some (.string ByteArray.empty), 1, 16) := by kernel_rfl
theorem s11 : (Try.prog.info? 11).map (·.size) = some 1 := by kernel_rfl
theorem i11 : (Try.prog.info? 11).map (fun i => (i.zero, i.size, i.bytes)) = some (some (.string ByteArray.empty), 1, 16) := by kernel_rfl
theorem s12 : (Try.prog.info? 12).map (·.size) = some 1 := by kernel_rfl
theorem i12 : (Try.prog.info? 12).map (fun i => (i.zero, i.size, i.bytes)) = some (some (.int .u64 0), 1, 8) := by kernel_rfl
theorem s15 : (Try.prog.info? 15).map (·.size) = some 1 := by kernel_rfl
theorem s16 : (Try.prog.info? 16).map (·.size) = some 1 := by kernel_rfl
theorem s17 : (Try.prog.info? 17).map (·.size) = some 1 := by kernel_rfl
theorem s20 : (Try.prog.info? 20).map (·.size) = some 1 := by kernel_rfl
theorem s21 : (Try.prog.info? 21).map (·.size) = some 1 := by kernel_rfl
theorem i21 : (Try.prog.info? 21).map (fun i => (i.zero, i.size, i.bytes)) = some (some (.int .i32 0), 1, 4) := by kernel_rfl
theorem s22 : (Try.prog.info? 22).map (·.size) = some 1 := by kernel_rfl
theorem s23 : (Try.prog.info? 23).map (·.size) = some 1 := by kernel_rfl
theorem s24 : (Try.prog.info? 24).map (·.size) = some 1 := by kernel_rfl
theorem s25 : (Try.prog.info? 25).map (·.size) = some 32 := by kernel_rfl
theorem z25 : (Try.prog.info? 25).map (·.zero) = some (some (.agg (nums .u8 (List.replicate 32 0)).toArray)) := by kernel_rfl
theorem s26 : (Try.prog.info? 26).map (·.size) = some 32 := by kernel_rfl
theorem z26 : (Try.prog.info? 26).map (·.zero) = some (some (.agg (nums .u8 (List.replicate 32 0)).toArray)) := by kernel_rfl
theorem s27 : (Try.prog.info? 27).map (·.size) = some 1 := by kernel_rfl
theorem s28 : (Try.prog.info? 28).map (·.size) = some 1 := by kernel_rfl
theorem s30 : (Try.prog.info? 30).map (·.size) = some 1 := by kernel_rfl
theorem s31 : (Try.prog.info? 31).map (·.size) = some 1 := by kernel_rfl
theorem s32 : (Try.prog.info? 32).map (·.size) = some 1 := by kernel_rfl
theorem s33 : (Try.prog.info? 33).map (·.size) = some 1 := by kernel_rfl
theorem s34 : (Try.prog.info? 34).map (·.size) = some 1 := by kernel_rfl
theorem s36 : (Try.prog.info? 36).map (·.size) = some 1 := by kernel_rfl
theorem s37 : (Try.prog.info? 37).map (·.size) = some 1 := by kernel_rfl
theorem s38 : (Try.prog.info? 38).map (·.size) = some 1 := by kernel_rfl
theorem s39 : (Try.prog.info? 39).map (·.size) = some 1 := by kernel_rfl
theorem s40 : (Try.prog.info? 40).map (·.size) = some 1 := by kernel_rfl
theorem s43 : (Try.prog.info? 43).map (·.size) = some 1 := by kernel_rfl
theorem s44 : (Try.prog.info? 44).map (·.size) = some 1 := by kernel_rfl
theorem s45 : (Try.prog.info? 45).map (·.size) = some 1 := by kernel_rfl
theorem s46 : (Try.prog.info? 46).map (·.size) = some 1 := by kernel_rfl
theorem s49 : (Try.prog.info? 49).map (·.size) = some 1 := by kernel_rfl
theorem s50 : (Try.prog.info? 50).map (·.size) = some 1 := by kernel_rfl
theorem s51 : (Try.prog.info? 51).map (·.size) = some 1 := by kernel_rfl
theorem s52 : (Try.prog.info? 52).map (·.size) = some 1 := by kernel_rfl
theorem s53 : (Try.prog.info? 53).map (·.size) = some 1 := by kernel_rfl
theorem s56 : (Try.prog.info? 56).map (·.size) = some 1 := by kernel_rfl
theorem s57 : (Try.prog.info? 57).map (·.size) = some 1 := by kernel_rfl
theorem s58 : (Try.prog.info? 58).map (·.size) = some 1 := by kernel_rfl
theorem s59 : (Try.prog.info? 59).map (·.size) = some 1 := by kernel_rfl
theorem s60 : (Try.prog.info? 60).map (·.size) = some 1 := by kernel_rfl
theorem s61 : (Try.prog.info? 61).map (·.size) = some 1 := by kernel_rfl
theorem s62 : (Try.prog.info? 62).map (·.size) = some 1 := by kernel_rfl
theorem s63 : (Try.prog.info? 63).map (·.size) = some 1 := by kernel_rfl
theorem s64 : (Try.prog.info? 64).map (·.size) = some 1 := by kernel_rfl
theorem s67 : (Try.prog.info? 67).map (·.size) = some 1 := by kernel_rfl
theorem s68 : (Try.prog.info? 68).map (·.size) = some 1 := by kernel_rfl
theorem s71 : (Try.prog.info? 71).map (·.size) = some 1 := by kernel_rfl
theorem s72 : (Try.prog.info? 72).map (·.size) = some 1 := by kernel_rfl
theorem i72 : (Try.prog.info? 72).map (fun i => (i.zero, i.size, i.bytes)) = some (some (.int .u32 0), 1, 4) := by kernel_rfl
theorem s73 : (Try.prog.info? 73).map (·.size) = some 1 := by kernel_rfl
theorem s78 : (Try.prog.info? 78).map (·.size) = some 1 := by kernel_rfl
theorem s79 : (Try.prog.info? 79).map (·.size) = some 1 := by kernel_rfl
theorem s80 : (Try.prog.info? 80).map (·.size) = some 1 := by kernel_rfl
theorem s81 : (Try.prog.info? 81).map (·.size) = some 1 := by kernel_rfl
theorem s82 : (Try.prog.info? 82).map (·.size) = some 1 := by kernel_rfl
theorem s83 : (Try.prog.info? 83).map (·.size) = some 1 := by kernel_rfl
theorem s84 : (Try.prog.info? 84).map (·.size) = some 1 := by kernel_rfl
theorem s85 : (Try.prog.info? 85).map (·.size) = some 1 := by kernel_rfl
theorem s86 : (Try.prog.info? 86).map (·.size) = some 1 := by kernel_rfl
theorem s89 : (Try.prog.info? 89).map (·.size) = some 1 := by kernel_rfl
theorem s90 : (Try.prog.info? 90).map (·.size) = some 1 := by kernel_rfl
theorem s93 : (Try.prog.info? 93).map (·.size) = some 1 := by kernel_rfl
theorem s96 : (Try.prog.info? 96).map (·.size) = some 1 := by kernel_rfl
theorem s97 : (Try.prog.info? 97).map (·.size) = some 1 := by kernel_rfl
theorem s98 : (Try.prog.info? 98).map (·.size) = some 1 := by kernel_rfl
theorem s99 : (Try.prog.info? 99).map (·.size) = some 1 := by kernel_rfl
theorem s102 : (Try.prog.info? 102).map (·.size) = some 1 := by kernel_rfl
theorem s103 : (Try.prog.info? 103).map (·.size) = some 1 := by kernel_rfl
theorem s104 : (Try.prog.info? 104).map (·.size) = some 1 := by kernel_rfl
theorem s106 : (Try.prog.info? 106).map (·.size) = some 1 := by kernel_rfl
theorem s107 : (Try.prog.info? 107).map (·.size) = some 1 := by kernel_rfl
theorem s108 : (Try.prog.info? 108).map (·.size) = some 1 := by kernel_rfl
theorem s109 : (Try.prog.info? 109).map (·.size) = some 1 := by kernel_rfl
theorem s110 : (Try.prog.info? 110).map (·.size) = some 1 := by kernel_rfl
theorem i110 : (Try.prog.info? 110).map (fun i => (i.zero, i.size, i.bytes)) = some (some (.int .u64 0), 1, 8) := by kernel_rfl
theorem s115 : (Try.prog.info? 115).map (·.size) = some 1 := by kernel_rfl
theorem s116 : (Try.prog.info? 116).map (·.size) = some 1 := by kernel_rfl
theorem s117 : (Try.prog.info? 117).map (·.size) = some 1 := by kernel_rfl
theorem s119 : (Try.prog.info? 119).map (·.size) = some 1 := by kernel_rfl
theorem s120 : (Try.prog.info? 120).map (·.size) = some 1 := by kernel_rfl
theorem s121 : (Try.prog.info? 121).map (·.size) = some 1 := by kernel_rfl
theorem s122 : (Try.prog.info? 122).map (·.size) = some 1 := by kernel_rfl
theorem s124 : (Try.prog.info? 124).map (·.size) = some 1 := by kernel_rfl
theorem s125 : (Try.prog.info? 125).map (·.size) = some 1 := by kernel_rfl
theorem s126 : (Try.prog.info? 126).map (·.size) = some 1 := by kernel_rfl
theorem s127 : (Try.prog.info? 127).map (·.size) = some 1 := by kernel_rfl
theorem s128 : (Try.prog.info? 128).map (·.size) = some 1 := by kernel_rfl
theorem s129 : (Try.prog.info? 129).map (·.size) = some 1 := by kernel_rfl
theorem s130 : (Try.prog.info? 130).map (·.size) = some 1 := by kernel_rfl
theorem s131 : (Try.prog.info? 131).map (·.size) = some 24 := by kernel_rfl
theorem z131 : (Try.prog.info? 131).map (·.zero) = some (some (.agg (nums .u8 (List.replicate 24 0)).toArray)) := by kernel_rfl
theorem s132 : (Try.prog.info? 132).map (·.size) = some 1 := by kernel_rfl
theorem s138 : (Try.prog.info? 138).map (·.size) = some 1 := by kernel_rfl
theorem i138 : (Try.prog.info? 138).map (fun i => (i.zero, i.size, i.bytes)) = some (some (.int .u8 0), 1, 1) := by kernel_rfl
theorem s139 : (Try.prog.info? 139).map (·.size) = some 1 := by kernel_rfl
theorem i139 : (Try.prog.info? 139).map (fun i => (i.zero, i.size, i.bytes)) = some (some (.int .u8 0), 1, 1) := by kernel_rfl
theorem s140 : (Try.prog.info? 140).map (·.size) = some 1 := by kernel_rfl
theorem s141 : (Try.prog.info? 141).map (·.size) = some 1 := by kernel_rfl
theorem s142 : (Try.prog.info? 142).map (·.size) = some 1 := by kernel_rfl
theorem i142 : (Try.prog.info? 142).map (fun i => (i.zero, i.size, i.bytes)) = some (some (.int .i32 0), 1, 4) := by kernel_rfl
theorem s143 : (Try.prog.info? 143).map (·.size) = some 1 := by kernel_rfl
theorem i143 : (Try.prog.info? 143).map (fun i => (i.zero, i.size, i.bytes)) = some (some (.int .i32 0), 1, 4) := by kernel_rfl
end Go.Proofs.Ytcapfnbmmdbcoaa
