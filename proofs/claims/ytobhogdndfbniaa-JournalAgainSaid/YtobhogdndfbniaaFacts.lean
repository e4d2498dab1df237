/- Closed facts on the types and functions of this seat's translation. -/
import Derived.Test.YtobhogdndfbniaaEff
import Derived.Test.YtobhogdndfbniaaProg
set_option maxRecDepth 100000
namespace Go.Proofs.Ytobhogdndfbniaa.K
open Go.EW Go.Proofs
theorem mix : Try.prog.follows .mixedOrders = true := by kernel_rfl
theorem sz2 : sizeOfT Try.prog 2 = some 1 := by kernel_rfl
theorem by2 : bytesOfT Try.prog 2 = some 8 := by kernel_rfl
theorem ag2 : aggT Try.prog 2 = some false := by kernel_rfl
theorem zr2 : zeroOfT Try.prog 2 = some (.int .i64 0) := by kernel_rfl
theorem sz3 : sizeOfT Try.prog 3 = some 1 := by kernel_rfl
theorem by3 : bytesOfT Try.prog 3 = some 8 := by kernel_rfl
theorem ag3 : aggT Try.prog 3 = some false := by kernel_rfl
theorem zr3 : zeroOfT Try.prog 3 = some (.int .i64 0) := by kernel_rfl
theorem sz4 : sizeOfT Try.prog 4 = some 1 := by kernel_rfl
theorem by4 : bytesOfT Try.prog 4 = some 1 := by kernel_rfl
theorem ag4 : aggT Try.prog 4 = some false := by kernel_rfl
theorem zr4 : zeroOfT Try.prog 4 = some (.bool false) := by kernel_rfl
theorem sz5 : sizeOfT Try.prog 5 = some 1 := by kernel_rfl
theorem by5 : bytesOfT Try.prog 5 = some 1 := by kernel_rfl
theorem ag5 : aggT Try.prog 5 = some false := by kernel_rfl
theorem zr5 : zeroOfT Try.prog 5 = some (.int .u8 0) := by kernel_rfl
theorem sz9 : sizeOfT Try.prog 9 = some 1 := by kernel_rfl
theorem by9 : bytesOfT Try.prog 9 = some 16 := by kernel_rfl
theorem ag9 : aggT Try.prog 9 = some false := by kernel_rfl
theorem zr9 : zeroOfT Try.prog 9 = some (.string ByteArray.empty) := by kernel_rfl
theorem sz22 : sizeOfT Try.prog 22 = some 1 := by kernel_rfl
theorem by22 : bytesOfT Try.prog 22 = some 24 := by kernel_rfl
theorem ag22 : aggT Try.prog 22 = some false := by kernel_rfl
theorem zr22 : zeroOfT Try.prog 22 = some (.slice none 0 0) := by kernel_rfl
theorem sz23 : sizeOfT Try.prog 23 = some 1 := by kernel_rfl
theorem by23 : bytesOfT Try.prog 23 = some 24 := by kernel_rfl
theorem ag23 : aggT Try.prog 23 = some false := by kernel_rfl
theorem zr23 : zeroOfT Try.prog 23 = some (.slice none 0 0) := by kernel_rfl
theorem sz24 : sizeOfT Try.prog 24 = some 1 := by kernel_rfl
theorem by24 : bytesOfT Try.prog 24 = some 8 := by kernel_rfl
theorem ag24 : aggT Try.prog 24 = some false := by kernel_rfl
theorem zr24 : zeroOfT Try.prog 24 = some (.pointer none) := by kernel_rfl
theorem sz27 : sizeOfT Try.prog 27 = some 1 := by kernel_rfl
theorem by27 : bytesOfT Try.prog 27 = some 24 := by kernel_rfl
theorem ag27 : aggT Try.prog 27 = some false := by kernel_rfl
theorem zr27 : zeroOfT Try.prog 27 = some (.slice none 0 0) := by kernel_rfl
theorem sz28 : sizeOfT Try.prog 28 = some 1 := by kernel_rfl
theorem by28 : bytesOfT Try.prog 28 = some 8 := by kernel_rfl
theorem ag28 : aggT Try.prog 28 = some false := by kernel_rfl
theorem zr28 : zeroOfT Try.prog 28 = some (.int .i64 0) := by kernel_rfl
theorem sz29 : sizeOfT Try.prog 29 = some 1 := by kernel_rfl
theorem by29 : bytesOfT Try.prog 29 = some 8 := by kernel_rfl
theorem ag29 : aggT Try.prog 29 = some false := by kernel_rfl
theorem zr29 : zeroOfT Try.prog 29 = some (.pointer none) := by kernel_rfl
theorem sz30 : sizeOfT Try.prog 30 = some 1 := by kernel_rfl
theorem by30 : bytesOfT Try.prog 30 = some 8 := by kernel_rfl
theorem ag30 : aggT Try.prog 30 = some false := by kernel_rfl
theorem zr30 : zeroOfT Try.prog 30 = some (.pointer none) := by kernel_rfl
theorem sz32 : sizeOfT Try.prog 32 = some 5 := by kernel_rfl
theorem by32 : bytesOfT Try.prog 32 = some 72 := by kernel_rfl
theorem ag32 : aggT Try.prog 32 = some true := by kernel_rfl
theorem zr32 : zeroOfT Try.prog 32 = some (.agg #[.pointer none, .pointer none, .slice none 0 0, .slice none 0 0, .bool false]) := by kernel_rfl
theorem pl32 : placesT Try.prog 32 = some #[(0, 1), (1, 1), (2, 1), (3, 1), (4, 1)] := by kernel_rfl
theorem sz35 : sizeOfT Try.prog 35 = some 2 := by kernel_rfl
theorem by35 : bytesOfT Try.prog 35 = some 32 := by kernel_rfl
theorem ag35 : aggT Try.prog 35 = some true := by kernel_rfl
theorem zr35 : zeroOfT Try.prog 35 = some (.agg #[.int .i64 0, .slice none 0 0]) := by kernel_rfl
theorem pl35 : placesT Try.prog 35 = some #[(0, 1), (1, 1)] := by kernel_rfl
theorem sz42 : sizeOfT Try.prog 42 = some 1 := by kernel_rfl
theorem by42 : bytesOfT Try.prog 42 = some 24 := by kernel_rfl
theorem ag42 : aggT Try.prog 42 = some false := by kernel_rfl
theorem zr42 : zeroOfT Try.prog 42 = some (.slice none 0 0) := by kernel_rfl
theorem sz46 : sizeOfT Try.prog 46 = some 2 := by kernel_rfl
theorem by46 : bytesOfT Try.prog 46 = some 16 := by kernel_rfl
theorem ag46 : aggT Try.prog 46 = some true := by kernel_rfl
theorem zr46 : zeroOfT Try.prog 46 = some (.agg #[.int .i64 0, .int .i64 0]) := by kernel_rfl
theorem pl46 : placesT Try.prog 46 = some #[(0, 1), (1, 1)] := by kernel_rfl
theorem sz54 : sizeOfT Try.prog 54 = some 1 := by kernel_rfl
theorem by54 : bytesOfT Try.prog 54 = some 24 := by kernel_rfl
theorem ag54 : aggT Try.prog 54 = some false := by kernel_rfl
theorem zr54 : zeroOfT Try.prog 54 = some (.slice none 0 0) := by kernel_rfl
theorem sz59 : sizeOfT Try.prog 59 = some 7 := by kernel_rfl
theorem by59 : bytesOfT Try.prog 59 = some 56 := by kernel_rfl
theorem ag59 : aggT Try.prog 59 = some true := by kernel_rfl
theorem zr59 : zeroOfT Try.prog 59 = some (.agg #[.pointer none, .int .i64 0, .int .i64 0, .int .i64 0, .int .i64 0, .int .i64 0, .bool false]) := by kernel_rfl
theorem pl59 : placesT Try.prog 59 = some #[(0, 1), (1, 2), (3, 2), (5, 1), (6, 1)] := by kernel_rfl
theorem sz61 : sizeOfT Try.prog 61 = some 2 := by kernel_rfl
theorem by61 : bytesOfT Try.prog 61 = some 32 := by kernel_rfl
theorem ag61 : aggT Try.prog 61 = some true := by kernel_rfl
theorem zr61 : zeroOfT Try.prog 61 = some (.agg #[.int .i64 0, .slice none 0 0]) := by kernel_rfl
theorem pl61 : placesT Try.prog 61 = some #[(0, 1), (1, 1)] := by kernel_rfl
theorem sz67 : sizeOfT Try.prog 67 = some 2 := by kernel_rfl
theorem by67 : bytesOfT Try.prog 67 = some 16 := by kernel_rfl
theorem ag67 : aggT Try.prog 67 = some true := by kernel_rfl
theorem zr67 : zeroOfT Try.prog 67 = some (.agg #[.bool false, .int .i64 0]) := by kernel_rfl
theorem pl67 : placesT Try.prog 67 = some #[(0, 1), (1, 1)] := by kernel_rfl
theorem sz68 : sizeOfT Try.prog 68 = some 1 := by kernel_rfl
theorem by68 : bytesOfT Try.prog 68 = some 24 := by kernel_rfl
theorem ag68 : aggT Try.prog 68 = some false := by kernel_rfl
theorem zr68 : zeroOfT Try.prog 68 = some (.slice none 0 0) := by kernel_rfl
theorem sz70 : sizeOfT Try.prog 70 = some 3 := by kernel_rfl
theorem by70 : bytesOfT Try.prog 70 = some 40 := by kernel_rfl
theorem ag70 : aggT Try.prog 70 = some true := by kernel_rfl
theorem zr70 : zeroOfT Try.prog 70 = some (.agg #[.bool false, .int .i64 0, .slice none 0 0]) := by kernel_rfl
theorem pl70 : placesT Try.prog 70 = some #[(0, 2), (2, 1)] := by kernel_rfl
theorem sz71 : sizeOfT Try.prog 71 = some 64 := by kernel_rfl
theorem by71 : bytesOfT Try.prog 71 = some 64 := by kernel_rfl
theorem ag71 : aggT Try.prog 71 = some true := by kernel_rfl
theorem zr71 : zeroOfT Try.prog 71 = some (.agg (Array.replicate 64 (.int .u8 0))) := by kernel_rfl
theorem sz72 : sizeOfT Try.prog 72 = some 1 := by kernel_rfl
theorem by72 : bytesOfT Try.prog 72 = some 24 := by kernel_rfl
theorem ag72 : aggT Try.prog 72 = some false := by kernel_rfl
theorem zr72 : zeroOfT Try.prog 72 = some (.slice none 0 0) := by kernel_rfl
theorem sz74 : sizeOfT Try.prog 74 = some 65 := by kernel_rfl
theorem by74 : bytesOfT Try.prog 74 = some 88 := by kernel_rfl
theorem ag74 : aggT Try.prog 74 = some true := by kernel_rfl
theorem zr74 : zeroOfT Try.prog 74 = some (.agg (Array.replicate 64 (.int .u8 0) ++ #[.slice none 0 0])) := by kernel_rfl
theorem pl74 : placesT Try.prog 74 = some #[(0, 64), (64, 1)] := by kernel_rfl
theorem sz79 : sizeOfT Try.prog 79 = some 1 := by kernel_rfl
theorem by79 : bytesOfT Try.prog 79 = some 8 := by kernel_rfl
theorem ag79 : aggT Try.prog 79 = some false := by kernel_rfl
theorem zr79 : zeroOfT Try.prog 79 = some (.pointer none) := by kernel_rfl
theorem sz84 : sizeOfT Try.prog 84 = some 1 := by kernel_rfl
theorem by84 : bytesOfT Try.prog 84 = some 8 := by kernel_rfl
theorem ag84 : aggT Try.prog 84 = some false := by kernel_rfl
theorem zr84 : zeroOfT Try.prog 84 = some (.pointer none) := by kernel_rfl
theorem sz90 : sizeOfT Try.prog 90 = some 1 := by kernel_rfl
theorem by90 : bytesOfT Try.prog 90 = some 24 := by kernel_rfl
theorem ag90 : aggT Try.prog 90 = some false := by kernel_rfl
theorem zr90 : zeroOfT Try.prog 90 = some (.slice none 0 0) := by kernel_rfl
theorem sz93 : sizeOfT Try.prog 93 = some 1 := by kernel_rfl
theorem by93 : bytesOfT Try.prog 93 = some 8 := by kernel_rfl
theorem ag93 : aggT Try.prog 93 = some false := by kernel_rfl
theorem zr93 : zeroOfT Try.prog 93 = some (.pointer none) := by kernel_rfl
theorem sz94 : sizeOfT Try.prog 94 = some 1 := by kernel_rfl
theorem by94 : bytesOfT Try.prog 94 = some 8 := by kernel_rfl
theorem ag94 : aggT Try.prog 94 = some false := by kernel_rfl
theorem zr94 : zeroOfT Try.prog 94 = some (.int .u64 0) := by kernel_rfl
theorem sz95 : sizeOfT Try.prog 95 = some 1 := by kernel_rfl
theorem by95 : bytesOfT Try.prog 95 = some 4 := by kernel_rfl
theorem ag95 : aggT Try.prog 95 = some false := by kernel_rfl
theorem zr95 : zeroOfT Try.prog 95 = some (.int .u32 0) := by kernel_rfl
theorem sz100 : sizeOfT Try.prog 100 = some 1 := by kernel_rfl
theorem by100 : bytesOfT Try.prog 100 = some 24 := by kernel_rfl
theorem ag100 : aggT Try.prog 100 = some true := by kernel_rfl
theorem zr100 : zeroOfT Try.prog 100 = some (.agg #[.slice none 0 0]) := by kernel_rfl
theorem pl100 : placesT Try.prog 100 = some #[(0, 1)] := by kernel_rfl
theorem fT32_0 : fieldT Try.prog 32 0 = some 0 := by kernel_rfl
theorem fT32_1 : fieldT Try.prog 32 1 = some 1 := by kernel_rfl
theorem fT32_2 : fieldT Try.prog 32 2 = some 2 := by kernel_rfl
theorem fT32_3 : fieldT Try.prog 32 3 = some 3 := by kernel_rfl
theorem fT35_0 : fieldT Try.prog 35 0 = some 0 := by kernel_rfl
theorem fT35_1 : fieldT Try.prog 35 1 = some 1 := by kernel_rfl
theorem fT46_0 : fieldT Try.prog 46 0 = some 0 := by kernel_rfl
theorem fT46_1 : fieldT Try.prog 46 1 = some 1 := by kernel_rfl
theorem fT59_0 : fieldT Try.prog 59 0 = some 0 := by kernel_rfl
theorem fT59_1 : fieldT Try.prog 59 1 = some 1 := by kernel_rfl
theorem fT59_2 : fieldT Try.prog 59 2 = some 3 := by kernel_rfl
theorem fT59_3 : fieldT Try.prog 59 3 = some 5 := by kernel_rfl
theorem fT59_4 : fieldT Try.prog 59 4 = some 6 := by kernel_rfl
theorem fT61_0 : fieldT Try.prog 61 0 = some 0 := by kernel_rfl
theorem fT61_1 : fieldT Try.prog 61 1 = some 1 := by kernel_rfl
theorem fT67_0 : fieldT Try.prog 67 0 = some 0 := by kernel_rfl
theorem fT67_1 : fieldT Try.prog 67 1 = some 1 := by kernel_rfl
theorem fT70_0 : fieldT Try.prog 70 0 = some 0 := by kernel_rfl
theorem fT70_1 : fieldT Try.prog 70 1 = some 2 := by kernel_rfl
theorem fT74_0 : fieldT Try.prog 74 0 = some 0 := by kernel_rfl
theorem fT74_1 : fieldT Try.prog 74 1 = some 64 := by kernel_rfl
theorem fT100_0 : fieldT Try.prog 100 0 = some 0 := by kernel_rfl
theorem bd3 : Bodied Try.prog 3 = true := by kernel_rfl
theorem bd4 : Bodied Try.prog 4 = true := by kernel_rfl
theorem bd5 : Bodied Try.prog 5 = true := by kernel_rfl
theorem bd6 : Bodied Try.prog 6 = true := by kernel_rfl
theorem bd7 : Bodied Try.prog 7 = true := by kernel_rfl
theorem bd8 : Bodied Try.prog 8 = true := by kernel_rfl
theorem bd9 : Bodied Try.prog 9 = true := by kernel_rfl
theorem bd10 : Bodied Try.prog 10 = true := by kernel_rfl
theorem bd11 : Bodied Try.prog 11 = true := by kernel_rfl
theorem bd12 : Bodied Try.prog 12 = true := by kernel_rfl
theorem bd13 : Bodied Try.prog 13 = true := by kernel_rfl
theorem bd14 : Bodied Try.prog 14 = true := by kernel_rfl
theorem bd15 : Bodied Try.prog 15 = true := by kernel_rfl
theorem bd16 : Bodied Try.prog 16 = true := by kernel_rfl
theorem bd17 : Bodied Try.prog 17 = true := by kernel_rfl
theorem bd18 : Bodied Try.prog 18 = true := by kernel_rfl
theorem bd19 : Bodied Try.prog 19 = true := by kernel_rfl
theorem bd20 : Bodied Try.prog 20 = true := by kernel_rfl
theorem bd21 : Bodied Try.prog 21 = true := by kernel_rfl
theorem bd22 : Bodied Try.prog 22 = true := by kernel_rfl
theorem bd23 : Bodied Try.prog 23 = true := by kernel_rfl
theorem bd24 : Bodied Try.prog 24 = true := by kernel_rfl
theorem bd25 : Bodied Try.prog 25 = true := by kernel_rfl
theorem bd26 : Bodied Try.prog 26 = true := by kernel_rfl
theorem bd27 : Bodied Try.prog 27 = true := by kernel_rfl
theorem bd28 : Bodied Try.prog 28 = true := by kernel_rfl
theorem bd29 : Bodied Try.prog 29 = true := by kernel_rfl
theorem bd30 : Bodied Try.prog 30 = true := by kernel_rfl
theorem bd31 : Bodied Try.prog 31 = true := by kernel_rfl
theorem bd32 : Bodied Try.prog 32 = true := by kernel_rfl
theorem bd33 : Bodied Try.prog 33 = true := by kernel_rfl
theorem bd34 : Bodied Try.prog 34 = true := by kernel_rfl
theorem bd35 : Bodied Try.prog 35 = true := by kernel_rfl
theorem bd36 : Bodied Try.prog 36 = true := by kernel_rfl
theorem bd37 : Bodied Try.prog 37 = true := by kernel_rfl
theorem bd38 : Bodied Try.prog 38 = true := by kernel_rfl
theorem bd39 : Bodied Try.prog 39 = true := by kernel_rfl
theorem bd40 : Bodied Try.prog 40 = true := by kernel_rfl
theorem bd41 : Bodied Try.prog 41 = true := by kernel_rfl
theorem bd42 : Bodied Try.prog 42 = true := by kernel_rfl
theorem bd43 : Bodied Try.prog 43 = true := by kernel_rfl
theorem bd44 : Bodied Try.prog 44 = true := by kernel_rfl
theorem bd45 : Bodied Try.prog 45 = true := by kernel_rfl
theorem bd46 : Bodied Try.prog 46 = true := by kernel_rfl
theorem bd47 : Bodied Try.prog 47 = true := by kernel_rfl
theorem bd48 : Bodied Try.prog 48 = true := by kernel_rfl
theorem bd49 : Bodied Try.prog 49 = true := by kernel_rfl
theorem bd50 : Bodied Try.prog 50 = true := by kernel_rfl
theorem bd51 : Bodied Try.prog 51 = true := by kernel_rfl
theorem bd52 : Bodied Try.prog 52 = true := by kernel_rfl
theorem bd53 : Bodied Try.prog 53 = true := by kernel_rfl
theorem bd54 : Bodied Try.prog 54 = true := by kernel_rfl
theorem bd55 : Bodied Try.prog 55 = true := by kernel_rfl
theorem bd56 : Bodied Try.prog 56 = true := by kernel_rfl
theorem bd57 : Bodied Try.prog 57 = true := by kernel_rfl
theorem bd58 : Bodied Try.prog 58 = true := by kernel_rfl
theorem bd59 : Bodied Try.prog 59 = true := by kernel_rfl
theorem bd60 : Bodied Try.prog 60 = true := by kernel_rfl
theorem bd61 : Bodied Try.prog 61 = true := by kernel_rfl
theorem bd62 : Bodied Try.prog 62 = true := by kernel_rfl
theorem bd63 : Bodied Try.prog 63 = true := by kernel_rfl
theorem bd64 : Bodied Try.prog 64 = true := by kernel_rfl
theorem bd65 : Bodied Try.prog 65 = true := by kernel_rfl
theorem bd66 : Bodied Try.prog 66 = true := by kernel_rfl
theorem bd67 : Bodied Try.prog 67 = true := by kernel_rfl
theorem bd68 : Bodied Try.prog 68 = true := by kernel_rfl
theorem bd69 : Bodied Try.prog 69 = true := by kernel_rfl
theorem bd70 : Bodied Try.prog 70 = true := by kernel_rfl
theorem bd71 : Bodied Try.prog 71 = true := by kernel_rfl
end Go.Proofs.Ytobhogdndfbniaa.K
