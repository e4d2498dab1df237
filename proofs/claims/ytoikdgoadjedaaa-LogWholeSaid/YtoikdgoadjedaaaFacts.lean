/- Closed facts on the types and functions of this seat's translation. -/
import Derived.Test.YtoikdgoadjedaaaEff
import Derived.Test.YtoikdgoadjedaaaProg
set_option maxRecDepth 100000
namespace Go.Proofs.Ytoikdgoadjedaaa.K
open Go.EW Go.Proofs
theorem mix : Try.prog.follows .mixedOrders = true := by kernel_rfl
theorem sz2 : sizeOfT Try.prog 2 = some 1 := by kernel_rfl
theorem by2 : bytesOfT Try.prog 2 = some 8 := by kernel_rfl
theorem ag2 : aggT Try.prog 2 = some false := by kernel_rfl
theorem zr2 : zeroOfT Try.prog 2 = some (.int .i64 0) := by kernel_rfl
theorem sz3 : sizeOfT Try.prog 3 = some 1 := by kernel_rfl
theorem by3 : bytesOfT Try.prog 3 = some 8 := by kernel_rfl
theorem ag3 : aggT Try.prog 3 = some false := by kernel_rfl
theorem zr3 : zeroOfT Try.prog 3 = some (.int .i64 0) := by kernel_rfl
theorem sz4 : sizeOfT Try.prog 4 = some 1 := by kernel_rfl
theorem by4 : bytesOfT Try.prog 4 = some 1 := by kernel_rfl
theorem ag4 : aggT Try.prog 4 = some false := by kernel_rfl
theorem zr4 : zeroOfT Try.prog 4 = some (.bool false) := by kernel_rfl
theorem sz5 : sizeOfT Try.prog 5 = some 1 := by kernel_rfl
theorem by5 : bytesOfT Try.prog 5 = some 1 := by kernel_rfl
theorem ag5 : aggT Try.prog 5 = some false := by kernel_rfl
theorem zr5 : zeroOfT Try.prog 5 = some (.int .u8 0) := by kernel_rfl
theorem sz9 : sizeOfT Try.prog 9 = some 1 := by kernel_rfl
theorem by9 : bytesOfT Try.prog 9 = some 16 := by kernel_rfl
theorem ag9 : aggT Try.prog 9 = some false := by kernel_rfl
theorem zr9 : zeroOfT Try.prog 9 = some (.string ByteArray.empty) := by kernel_rfl
theorem sz22 : sizeOfT Try.prog 22 = some 1 := by kernel_rfl
theorem by22 : bytesOfT Try.prog 22 = some 2 := by kernel_rfl
theorem ag22 : aggT Try.prog 22 = some false := by kernel_rfl
theorem zr22 : zeroOfT Try.prog 22 = some (.int .u16 0) := by kernel_rfl
theorem sz23 : sizeOfT Try.prog 23 = some 1 := by kernel_rfl
theorem by23 : bytesOfT Try.prog 23 = some 24 := by kernel_rfl
theorem ag23 : aggT Try.prog 23 = some false := by kernel_rfl
theorem zr23 : zeroOfT Try.prog 23 = some (.slice none 0 0) := by kernel_rfl
theorem sz25 : sizeOfT Try.prog 25 = some 2 := by kernel_rfl
theorem by25 : bytesOfT Try.prog 25 = some 16 := by kernel_rfl
theorem ag25 : aggT Try.prog 25 = some true := by kernel_rfl
theorem zr25 : zeroOfT Try.prog 25 = some (.agg #[.int .i64 0, .int .i64 0]) := by kernel_rfl
theorem pl25 : placesT Try.prog 25 = some #[(0, 1), (1, 1)] := by kernel_rfl
theorem sz26 : sizeOfT Try.prog 26 = some 1 := by kernel_rfl
theorem by26 : bytesOfT Try.prog 26 = some 24 := by kernel_rfl
theorem ag26 : aggT Try.prog 26 = some false := by kernel_rfl
theorem zr26 : zeroOfT Try.prog 26 = some (.slice none 0 0) := by kernel_rfl
theorem sz27 : sizeOfT Try.prog 27 = some 1 := by kernel_rfl
theorem by27 : bytesOfT Try.prog 27 = some 24 := by kernel_rfl
theorem ag27 : aggT Try.prog 27 = some false := by kernel_rfl
theorem zr27 : zeroOfT Try.prog 27 = some (.slice none 0 0) := by kernel_rfl
theorem sz29 : sizeOfT Try.prog 29 = some 2 := by kernel_rfl
theorem by29 : bytesOfT Try.prog 29 = some 32 := by kernel_rfl
theorem ag29 : aggT Try.prog 29 = some true := by kernel_rfl
theorem zr29 : zeroOfT Try.prog 29 = some (.agg #[.int .i64 0, .slice none 0 0]) := by kernel_rfl
theorem pl29 : placesT Try.prog 29 = some #[(0, 1), (1, 1)] := by kernel_rfl
theorem sz30 : sizeOfT Try.prog 30 = some 1 := by kernel_rfl
theorem by30 : bytesOfT Try.prog 30 = some 8 := by kernel_rfl
theorem ag30 : aggT Try.prog 30 = some false := by kernel_rfl
theorem zr30 : zeroOfT Try.prog 30 = some (.int .i64 0) := by kernel_rfl
theorem sz34 : sizeOfT Try.prog 34 = some 1 := by kernel_rfl
theorem by34 : bytesOfT Try.prog 34 = some 24 := by kernel_rfl
theorem ag34 : aggT Try.prog 34 = some false := by kernel_rfl
theorem zr34 : zeroOfT Try.prog 34 = some (.slice none 0 0) := by kernel_rfl
theorem sz38 : sizeOfT Try.prog 38 = some 1 := by kernel_rfl
theorem by38 : bytesOfT Try.prog 38 = some 24 := by kernel_rfl
theorem ag38 : aggT Try.prog 38 = some false := by kernel_rfl
theorem zr38 : zeroOfT Try.prog 38 = some (.slice none 0 0) := by kernel_rfl
theorem sz40 : sizeOfT Try.prog 40 = some 2 := by kernel_rfl
theorem by40 : bytesOfT Try.prog 40 = some 32 := by kernel_rfl
theorem ag40 : aggT Try.prog 40 = some true := by kernel_rfl
theorem zr40 : zeroOfT Try.prog 40 = some (.agg #[.int .i64 0, .slice none 0 0]) := by kernel_rfl
theorem pl40 : placesT Try.prog 40 = some #[(0, 1), (1, 1)] := by kernel_rfl
theorem sz43 : sizeOfT Try.prog 43 = some 1 := by kernel_rfl
theorem by43 : bytesOfT Try.prog 43 = some 8 := by kernel_rfl
theorem ag43 : aggT Try.prog 43 = some false := by kernel_rfl
theorem zr43 : zeroOfT Try.prog 43 = some (.pointer none) := by kernel_rfl
theorem sz59 : sizeOfT Try.prog 59 = some 1 := by kernel_rfl
theorem by59 : bytesOfT Try.prog 59 = some 24 := by kernel_rfl
theorem ag59 : aggT Try.prog 59 = some true := by kernel_rfl
theorem zr59 : zeroOfT Try.prog 59 = some (.agg #[.slice none 0 0]) := by kernel_rfl
theorem pl59 : placesT Try.prog 59 = some #[(0, 1)] := by kernel_rfl
theorem sz61 : sizeOfT Try.prog 61 = some 1 := by kernel_rfl
theorem by61 : bytesOfT Try.prog 61 = some 4 := by kernel_rfl
theorem ag61 : aggT Try.prog 61 = some false := by kernel_rfl
theorem zr61 : zeroOfT Try.prog 61 = some (.int .u32 0) := by kernel_rfl
theorem fT25_0 : fieldT Try.prog 25 0 = some 0 := by kernel_rfl
theorem fT25_1 : fieldT Try.prog 25 1 = some 1 := by kernel_rfl
theorem fT29_0 : fieldT Try.prog 29 0 = some 0 := by kernel_rfl
theorem fT29_1 : fieldT Try.prog 29 1 = some 1 := by kernel_rfl
theorem fT40_0 : fieldT Try.prog 40 0 = some 0 := by kernel_rfl
theorem fT40_1 : fieldT Try.prog 40 1 = some 1 := by kernel_rfl
theorem fT59_0 : fieldT Try.prog 59 0 = some 0 := by kernel_rfl
theorem bd3 : Bodied Try.prog 3 = true := by kernel_rfl
theorem bd4 : Bodied Try.prog 4 = true := by kernel_rfl
theorem bd5 : Bodied Try.prog 5 = true := by kernel_rfl
theorem bd6 : Bodied Try.prog 6 = true := by kernel_rfl
theorem bd7 : Bodied Try.prog 7 = true := by kernel_rfl
theorem bd8 : Bodied Try.prog 8 = true := by kernel_rfl
theorem bd9 : Bodied Try.prog 9 = true := by kernel_rfl
theorem bd10 : Bodied Try.prog 10 = true := by kernel_rfl
theorem bd11 : Bodied Try.prog 11 = true := by kernel_rfl
theorem bd12 : Bodied Try.prog 12 = true := by kernel_rfl
theorem bd13 : Bodied Try.prog 13 = true := by kernel_rfl
theorem bd14 : Bodied Try.prog 14 = true := by kernel_rfl
theorem bd15 : Bodied Try.prog 15 = true := by kernel_rfl
theorem bd16 : Bodied Try.prog 16 = true := by kernel_rfl
theorem bd17 : Bodied Try.prog 17 = true := by kernel_rfl
theorem bd18 : Bodied Try.prog 18 = true := by kernel_rfl
theorem bd19 : Bodied Try.prog 19 = true := by kernel_rfl
theorem bd20 : Bodied Try.prog 20 = true := by kernel_rfl
theorem bd21 : Bodied Try.prog 21 = true := by kernel_rfl
theorem bd22 : Bodied Try.prog 22 = true := by kernel_rfl
theorem bd23 : Bodied Try.prog 23 = true := by kernel_rfl
theorem bd24 : Bodied Try.prog 24 = true := by kernel_rfl
theorem bd25 : Bodied Try.prog 25 = true := by kernel_rfl
theorem bd26 : Bodied Try.prog 26 = true := by kernel_rfl
theorem bd27 : Bodied Try.prog 27 = true := by kernel_rfl
theorem bd28 : Bodied Try.prog 28 = true := by kernel_rfl
theorem bd29 : Bodied Try.prog 29 = true := by kernel_rfl
theorem bd30 : Bodied Try.prog 30 = true := by kernel_rfl
theorem bd31 : Bodied Try.prog 31 = true := by kernel_rfl
theorem bd32 : Bodied Try.prog 32 = true := by kernel_rfl
theorem bd33 : Bodied Try.prog 33 = true := by kernel_rfl
theorem bd34 : Bodied Try.prog 34 = true := by kernel_rfl
theorem bd35 : Bodied Try.prog 35 = true := by kernel_rfl
theorem bd36 : Bodied Try.prog 36 = true := by kernel_rfl
theorem bd37 : Bodied Try.prog 37 = true := by kernel_rfl
end Go.Proofs.Ytoikdgoadjedaaa.K
