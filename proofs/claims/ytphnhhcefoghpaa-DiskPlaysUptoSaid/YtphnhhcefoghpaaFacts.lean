/- Closed facts on the types and functions of this seat's translation. -/
import Derived.Test.YtphnhhcefoghpaaEff
import Derived.Test.YtphnhhcefoghpaaProg
set_option maxRecDepth 100000
namespace Go.Proofs.Ytphnhhcefoghpaa.K
open Go.EW Go.Proofs
theorem mix : Try.prog.follows .mixedOrders = true := by kernel_rfl
theorem sz2 : sizeOfT Try.prog 2 = some 1 := by kernel_rfl
theorem by2 : bytesOfT Try.prog 2 = some 8 := by kernel_rfl
theorem ag2 : aggT Try.prog 2 = some false := by kernel_rfl
theorem zr2 : zeroOfT Try.prog 2 = some (.int .i64 0) := by kernel_rfl
theorem sz3 : sizeOfT Try.prog 3 = some 1 := by kernel_rfl
theorem by3 : bytesOfT Try.prog 3 = some 8 := by kernel_rfl
theorem ag3 : aggT Try.prog 3 = some false := by kernel_rfl
theorem zr3 : zeroOfT Try.prog 3 = some (.int .i64 0) := by kernel_rfl
theorem sz4 : sizeOfT Try.prog 4 = some 1 := by kernel_rfl
theorem by4 : bytesOfT Try.prog 4 = some 1 := by kernel_rfl
theorem ag4 : aggT Try.prog 4 = some false := by kernel_rfl
theorem zr4 : zeroOfT Try.prog 4 = some (.bool false) := by kernel_rfl
theorem sz5 : sizeOfT Try.prog 5 = some 1 := by kernel_rfl
theorem by5 : bytesOfT Try.prog 5 = some 1 := by kernel_rfl
theorem ag5 : aggT Try.prog 5 = some false := by kernel_rfl
theorem zr5 : zeroOfT Try.prog 5 = some (.int .u8 0) := by kernel_rfl
theorem sz9 : sizeOfT Try.prog 9 = some 1 := by kernel_rfl
theorem by9 : bytesOfT Try.prog 9 = some 16 := by kernel_rfl
theorem ag9 : aggT Try.prog 9 = some false := by kernel_rfl
theorem zr9 : zeroOfT Try.prog 9 = some (.string ByteArray.empty) := by kernel_rfl
theorem sz22 : sizeOfT Try.prog 22 = some 1 := by kernel_rfl
theorem by22 : bytesOfT Try.prog 22 = some 24 := by kernel_rfl
theorem ag22 : aggT Try.prog 22 = some false := by kernel_rfl
theorem zr22 : zeroOfT Try.prog 22 = some (.slice none 0 0) := by kernel_rfl
theorem sz23 : sizeOfT Try.prog 23 = some 1 := by kernel_rfl
theorem by23 : bytesOfT Try.prog 23 = some 24 := by kernel_rfl
theorem ag23 : aggT Try.prog 23 = some false := by kernel_rfl
theorem zr23 : zeroOfT Try.prog 23 = some (.slice none 0 0) := by kernel_rfl
theorem sz24 : sizeOfT Try.prog 24 = some 1 := by kernel_rfl
theorem by24 : bytesOfT Try.prog 24 = some 24 := by kernel_rfl
theorem ag24 : aggT Try.prog 24 = some false := by kernel_rfl
theorem zr24 : zeroOfT Try.prog 24 = some (.slice none 0 0) := by kernel_rfl
theorem sz25 : sizeOfT Try.prog 25 = some 1 := by kernel_rfl
theorem by25 : bytesOfT Try.prog 25 = some 8 := by kernel_rfl
theorem ag25 : aggT Try.prog 25 = some false := by kernel_rfl
theorem zr25 : zeroOfT Try.prog 25 = some (.pointer none) := by kernel_rfl
theorem sz26 : sizeOfT Try.prog 26 = some 1 := by kernel_rfl
theorem by26 : bytesOfT Try.prog 26 = some 8 := by kernel_rfl
theorem ag26 : aggT Try.prog 26 = some false := by kernel_rfl
theorem zr26 : zeroOfT Try.prog 26 = some (.int .i64 0) := by kernel_rfl
theorem sz30 : sizeOfT Try.prog 30 = some 1 := by kernel_rfl
theorem by30 : bytesOfT Try.prog 30 = some 24 := by kernel_rfl
theorem ag30 : aggT Try.prog 30 = some false := by kernel_rfl
theorem zr30 : zeroOfT Try.prog 30 = some (.slice none 0 0) := by kernel_rfl
theorem sz31 : sizeOfT Try.prog 31 = some 1 := by kernel_rfl
theorem by31 : bytesOfT Try.prog 31 = some 24 := by kernel_rfl
theorem ag31 : aggT Try.prog 31 = some false := by kernel_rfl
theorem zr31 : zeroOfT Try.prog 31 = some (.slice none 0 0) := by kernel_rfl
theorem sz34 : sizeOfT Try.prog 34 = some 2 := by kernel_rfl
theorem by34 : bytesOfT Try.prog 34 = some 32 := by kernel_rfl
theorem ag34 : aggT Try.prog 34 = some true := by kernel_rfl
theorem zr34 : zeroOfT Try.prog 34 = some (.agg #[.int .i64 0, .slice none 0 0]) := by kernel_rfl
theorem pl34 : placesT Try.prog 34 = some #[(0, 1), (1, 1)] := by kernel_rfl
theorem sz40 : sizeOfT Try.prog 40 = some 1 := by kernel_rfl
theorem by40 : bytesOfT Try.prog 40 = some 24 := by kernel_rfl
theorem ag40 : aggT Try.prog 40 = some false := by kernel_rfl
theorem zr40 : zeroOfT Try.prog 40 = some (.slice none 0 0) := by kernel_rfl
theorem sz42 : sizeOfT Try.prog 42 = some 1 := by kernel_rfl
theorem by42 : bytesOfT Try.prog 42 = some 24 := by kernel_rfl
theorem ag42 : aggT Try.prog 42 = some false := by kernel_rfl
theorem zr42 : zeroOfT Try.prog 42 = some (.slice none 0 0) := by kernel_rfl
theorem sz43 : sizeOfT Try.prog 43 = some 1 := by kernel_rfl
theorem by43 : bytesOfT Try.prog 43 = some 8 := by kernel_rfl
theorem ag43 : aggT Try.prog 43 = some false := by kernel_rfl
theorem zr43 : zeroOfT Try.prog 43 = some (.pointer none) := by kernel_rfl
theorem sz46 : sizeOfT Try.prog 46 = some 4 := by kernel_rfl
theorem by46 : bytesOfT Try.prog 46 = some 64 := by kernel_rfl
theorem ag46 : aggT Try.prog 46 = some true := by kernel_rfl
theorem zr46 : zeroOfT Try.prog 46 = some (.agg #[.int .i64 0, .int .i64 0, .slice none 0 0, .slice none 0 0]) := by kernel_rfl
theorem pl46 : placesT Try.prog 46 = some #[(0, 1), (1, 1), (2, 1), (3, 1)] := by kernel_rfl
theorem sz52 : sizeOfT Try.prog 52 = some 4 := by kernel_rfl
theorem by52 : bytesOfT Try.prog 52 = some 64 := by kernel_rfl
theorem ag52 : aggT Try.prog 52 = some true := by kernel_rfl
theorem zr52 : zeroOfT Try.prog 52 = some (.agg #[.slice none 0 0, .slice none 0 0, .int .i64 0, .bool false]) := by kernel_rfl
theorem pl52 : placesT Try.prog 52 = some #[(0, 1), (1, 1), (2, 1), (3, 1)] := by kernel_rfl
theorem sz59 : sizeOfT Try.prog 59 = some 2 := by kernel_rfl
theorem by59 : bytesOfT Try.prog 59 = some 16 := by kernel_rfl
theorem ag59 : aggT Try.prog 59 = some true := by kernel_rfl
theorem zr59 : zeroOfT Try.prog 59 = some (.agg #[.bool false, .int .i64 0]) := by kernel_rfl
theorem pl59 : placesT Try.prog 59 = some #[(0, 1), (1, 1)] := by kernel_rfl
theorem sz60 : sizeOfT Try.prog 60 = some 1 := by kernel_rfl
theorem by60 : bytesOfT Try.prog 60 = some 24 := by kernel_rfl
theorem ag60 : aggT Try.prog 60 = some false := by kernel_rfl
theorem zr60 : zeroOfT Try.prog 60 = some (.slice none 0 0) := by kernel_rfl
theorem sz62 : sizeOfT Try.prog 62 = some 3 := by kernel_rfl
theorem by62 : bytesOfT Try.prog 62 = some 40 := by kernel_rfl
theorem ag62 : aggT Try.prog 62 = some true := by kernel_rfl
theorem zr62 : zeroOfT Try.prog 62 = some (.agg #[.bool false, .int .i64 0, .slice none 0 0]) := by kernel_rfl
theorem pl62 : placesT Try.prog 62 = some #[(0, 2), (2, 1)] := by kernel_rfl
theorem sz63 : sizeOfT Try.prog 63 = some 1 := by kernel_rfl
theorem by63 : bytesOfT Try.prog 63 = some 8 := by kernel_rfl
theorem ag63 : aggT Try.prog 63 = some false := by kernel_rfl
theorem zr63 : zeroOfT Try.prog 63 = some (.pointer none) := by kernel_rfl
theorem sz64 : sizeOfT Try.prog 64 = some 64 := by kernel_rfl
theorem by64 : bytesOfT Try.prog 64 = some 64 := by kernel_rfl
theorem ag64 : aggT Try.prog 64 = some true := by kernel_rfl
theorem zr64 : zeroOfT Try.prog 64 = some (.agg (Array.replicate 64 (.int .u8 0))) := by kernel_rfl
theorem sz65 : sizeOfT Try.prog 65 = some 1 := by kernel_rfl
theorem by65 : bytesOfT Try.prog 65 = some 24 := by kernel_rfl
theorem ag65 : aggT Try.prog 65 = some false := by kernel_rfl
theorem zr65 : zeroOfT Try.prog 65 = some (.slice none 0 0) := by kernel_rfl
theorem sz67 : sizeOfT Try.prog 67 = some 65 := by kernel_rfl
theorem by67 : bytesOfT Try.prog 67 = some 88 := by kernel_rfl
theorem ag67 : aggT Try.prog 67 = some true := by kernel_rfl
theorem zr67 : zeroOfT Try.prog 67 = some (.agg (Array.replicate 64 (.int .u8 0) ++ #[.slice none 0 0])) := by kernel_rfl
theorem pl67 : placesT Try.prog 67 = some #[(0, 64), (64, 1)] := by kernel_rfl
theorem sz70 : sizeOfT Try.prog 70 = some 1 := by kernel_rfl
theorem by70 : bytesOfT Try.prog 70 = some 8 := by kernel_rfl
theorem ag70 : aggT Try.prog 70 = some false := by kernel_rfl
theorem zr70 : zeroOfT Try.prog 70 = some (.pointer none) := by kernel_rfl
theorem fT34_0 : fieldT Try.prog 34 0 = some 0 := by kernel_rfl
theorem fT34_1 : fieldT Try.prog 34 1 = some 1 := by kernel_rfl
theorem fT46_0 : fieldT Try.prog 46 0 = some 0 := by kernel_rfl
theorem fT46_1 : fieldT Try.prog 46 1 = some 1 := by kernel_rfl
theorem fT46_2 : fieldT Try.prog 46 2 = some 2 := by kernel_rfl
theorem fT46_3 : fieldT Try.prog 46 3 = some 3 := by kernel_rfl
theorem fT52_0 : fieldT Try.prog 52 0 = some 0 := by kernel_rfl
theorem fT52_1 : fieldT Try.prog 52 1 = some 1 := by kernel_rfl
theorem fT52_2 : fieldT Try.prog 52 2 = some 2 := by kernel_rfl
theorem fT52_3 : fieldT Try.prog 52 3 = some 3 := by kernel_rfl
theorem fT59_0 : fieldT Try.prog 59 0 = some 0 := by kernel_rfl
theorem fT59_1 : fieldT Try.prog 59 1 = some 1 := by kernel_rfl
theorem fT62_0 : fieldT Try.prog 62 0 = some 0 := by kernel_rfl
theorem fT62_1 : fieldT Try.prog 62 1 = some 2 := by kernel_rfl
theorem fT67_0 : fieldT Try.prog 67 0 = some 0 := by kernel_rfl
theorem fT67_1 : fieldT Try.prog 67 1 = some 64 := by kernel_rfl
theorem bd8 : Bodied Try.prog 8 = true := by kernel_rfl
theorem bd9 : Bodied Try.prog 9 = true := by kernel_rfl
theorem bd10 : Bodied Try.prog 10 = true := by kernel_rfl
theorem bd11 : Bodied Try.prog 11 = true := by kernel_rfl
theorem bd12 : Bodied Try.prog 12 = true := by kernel_rfl
theorem bd13 : Bodied Try.prog 13 = true := by kernel_rfl
theorem bd14 : Bodied Try.prog 14 = true := by kernel_rfl
theorem bd15 : Bodied Try.prog 15 = true := by kernel_rfl
theorem bd16 : Bodied Try.prog 16 = true := by kernel_rfl
theorem bd17 : Bodied Try.prog 17 = true := by kernel_rfl
theorem bd18 : Bodied Try.prog 18 = true := by kernel_rfl
theorem bd19 : Bodied Try.prog 19 = true := by kernel_rfl
theorem bd20 : Bodied Try.prog 20 = true := by kernel_rfl
theorem bd21 : Bodied Try.prog 21 = true := by kernel_rfl
theorem bd22 : Bodied Try.prog 22 = true := by kernel_rfl
theorem bd23 : Bodied Try.prog 23 = true := by kernel_rfl
theorem bd24 : Bodied Try.prog 24 = true := by kernel_rfl
theorem bd25 : Bodied Try.prog 25 = true := by kernel_rfl
theorem bd26 : Bodied Try.prog 26 = true := by kernel_rfl
theorem bd27 : Bodied Try.prog 27 = true := by kernel_rfl
theorem bd28 : Bodied Try.prog 28 = true := by kernel_rfl
end Go.Proofs.Ytphnhhcefoghpaa.K
