/- Closed facts on the types and functions of this seat's translation. -/
import Derived.Test.YtifmdcjncbbcgaaEff
import Derived.Test.YtifmdcjncbbcgaaProg
set_option maxRecDepth 100000
namespace Go.Proofs.Ytifmdcjncbbcgaa.K
open Go.EW Go.Proofs
theorem mix : Try.prog.follows .mixedOrders = true := by kernel_rfl
theorem sz2 : sizeOfT Try.prog 2 = some 1 := by kernel_rfl
theorem by2 : bytesOfT Try.prog 2 = some 8 := by kernel_rfl
theorem ag2 : aggT Try.prog 2 = some false := by kernel_rfl
theorem zr2 : zeroOfT Try.prog 2 = some (.int .i64 0) := by kernel_rfl
theorem sz3 : sizeOfT Try.prog 3 = some 1 := by kernel_rfl
theorem by3 : bytesOfT Try.prog 3 = some 8 := by kernel_rfl
theorem ag3 : aggT Try.prog 3 = some false := by kernel_rfl
theorem zr3 : zeroOfT Try.prog 3 = some (.int .i64 0) := by kernel_rfl
theorem sz4 : sizeOfT Try.prog 4 = some 1 := by kernel_rfl
theorem by4 : bytesOfT Try.prog 4 = some 1 := by kernel_rfl
theorem ag4 : aggT Try.prog 4 = some false := by kernel_rfl
theorem zr4 : zeroOfT Try.prog 4 = some (.bool false) := by kernel_rfl
theorem sz5 : sizeOfT Try.prog 5 = some 1 := by kernel_rfl
theorem by5 : bytesOfT Try.prog 5 = some 1 := by kernel_rfl
theorem ag5 : aggT Try.prog 5 = some false := by kernel_rfl
theorem zr5 : zeroOfT Try.prog 5 = some (.int .u8 0) := by kernel_rfl
theorem sz6 : sizeOfT Try.prog 6 = some 1 := by kernel_rfl
theorem by6 : bytesOfT Try.prog 6 = some 1 := by kernel_rfl
theorem ag6 : aggT Try.prog 6 = some false := by kernel_rfl
theorem zr6 : zeroOfT Try.prog 6 = some (.int .u8 0) := by kernel_rfl
theorem sz7 : sizeOfT Try.prog 7 = some 4 := by kernel_rfl
theorem by7 : bytesOfT Try.prog 7 = some 24 := by kernel_rfl
theorem ag7 : aggT Try.prog 7 = some true := by kernel_rfl
theorem zr7 : zeroOfT Try.prog 7 = some (.agg #[.int .i64 0, .int .i64 0, .bool false, .int .u8 0]) := by kernel_rfl
theorem pl7 : placesT Try.prog 7 = some #[(0, 1), (1, 1), (2, 1), (3, 1)] := by kernel_rfl
theorem sz8 : sizeOfT Try.prog 8 = some 4 := by kernel_rfl
theorem by8 : bytesOfT Try.prog 8 = some 24 := by kernel_rfl
theorem ag8 : aggT Try.prog 8 = some true := by kernel_rfl
theorem zr8 : zeroOfT Try.prog 8 = some (.agg #[.int .i64 0, .int .i64 0, .bool false, .int .u8 0]) := by kernel_rfl
theorem pl8 : placesT Try.prog 8 = some #[(0, 1), (1, 1), (2, 1), (3, 1)] := by kernel_rfl
theorem sz9 : sizeOfT Try.prog 9 = some 1 := by kernel_rfl
theorem by9 : bytesOfT Try.prog 9 = some 16 := by kernel_rfl
theorem ag9 : aggT Try.prog 9 = some false := by kernel_rfl
theorem zr9 : zeroOfT Try.prog 9 = some (.string ByteArray.empty) := by kernel_rfl
theorem sz22 : sizeOfT Try.prog 22 = some 1 := by kernel_rfl
theorem by22 : bytesOfT Try.prog 22 = some 24 := by kernel_rfl
theorem ag22 : aggT Try.prog 22 = some false := by kernel_rfl
theorem zr22 : zeroOfT Try.prog 22 = some (.slice none 0 0) := by kernel_rfl
theorem sz23 : sizeOfT Try.prog 23 = some 1 := by kernel_rfl
theorem by23 : bytesOfT Try.prog 23 = some 8 := by kernel_rfl
theorem ag23 : aggT Try.prog 23 = some false := by kernel_rfl
theorem zr23 : zeroOfT Try.prog 23 = some (.int .i64 0) := by kernel_rfl
theorem sz29 : sizeOfT Try.prog 29 = some 4 := by kernel_rfl
theorem by29 : bytesOfT Try.prog 29 = some 32 := by kernel_rfl
theorem ag29 : aggT Try.prog 29 = some true := by kernel_rfl
theorem zr29 : zeroOfT Try.prog 29 = some (.agg (Array.replicate 4 (.int .i64 0))) := by kernel_rfl
theorem sz30 : sizeOfT Try.prog 30 = some 1 := by kernel_rfl
theorem by30 : bytesOfT Try.prog 30 = some 24 := by kernel_rfl
theorem ag30 : aggT Try.prog 30 = some false := by kernel_rfl
theorem zr30 : zeroOfT Try.prog 30 = some (.slice none 0 0) := by kernel_rfl
theorem sz32 : sizeOfT Try.prog 32 = some 12 := by kernel_rfl
theorem by32 : bytesOfT Try.prog 32 = some 112 := by kernel_rfl
theorem ag32 : aggT Try.prog 32 = some true := by kernel_rfl
theorem zr32 : zeroOfT Try.prog 32 = some (.agg (#[.int .i64 0] ++ #[.int .i64 0] ++ #[.int .i64 0] ++ #[.int .i64 0] ++ Array.replicate 4 (.int .i64 0) ++ #[.int .i64 0] ++ #[.int .i64 0] ++ #[.slice none 0 0] ++ #[.int .i64 0])) := by kernel_rfl
theorem pl32 : placesT Try.prog 32 = some #[(0, 1), (1, 1), (2, 1), (3, 1), (4, 4), (8, 1), (9, 1), (10, 1), (11, 1)] := by kernel_rfl
theorem sz33 : sizeOfT Try.prog 33 = some 1 := by kernel_rfl
theorem by33 : bytesOfT Try.prog 33 = some 24 := by kernel_rfl
theorem ag33 : aggT Try.prog 33 = some false := by kernel_rfl
theorem zr33 : zeroOfT Try.prog 33 = some (.slice none 0 0) := by kernel_rfl
theorem sz49 : sizeOfT Try.prog 49 = some 1 := by kernel_rfl
theorem by49 : bytesOfT Try.prog 49 = some 8 := by kernel_rfl
theorem ag49 : aggT Try.prog 49 = some false := by kernel_rfl
theorem zr49 : zeroOfT Try.prog 49 = some (.pointer none) := by kernel_rfl
theorem sz51 : sizeOfT Try.prog 51 = some 2 := by kernel_rfl
theorem by51 : bytesOfT Try.prog 51 = some 48 := by kernel_rfl
theorem ag51 : aggT Try.prog 51 = some true := by kernel_rfl
theorem zr51 : zeroOfT Try.prog 51 = some (.agg #[.slice none 0 0, .slice none 0 0]) := by kernel_rfl
theorem pl51 : placesT Try.prog 51 = some #[(0, 1), (1, 1)] := by kernel_rfl
theorem sz56 : sizeOfT Try.prog 56 = some 1 := by kernel_rfl
theorem by56 : bytesOfT Try.prog 56 = some 24 := by kernel_rfl
theorem ag56 : aggT Try.prog 56 = some false := by kernel_rfl
theorem zr56 : zeroOfT Try.prog 56 = some (.slice none 0 0) := by kernel_rfl
theorem sz59 : sizeOfT Try.prog 59 = some 2 := by kernel_rfl
theorem by59 : bytesOfT Try.prog 59 = some 32 := by kernel_rfl
theorem ag59 : aggT Try.prog 59 = some true := by kernel_rfl
theorem zr59 : zeroOfT Try.prog 59 = some (.agg #[.int .i64 0, .slice none 0 0]) := by kernel_rfl
theorem pl59 : placesT Try.prog 59 = some #[(0, 1), (1, 1)] := by kernel_rfl
theorem sz61 : sizeOfT Try.prog 61 = some 1 := by kernel_rfl
theorem by61 : bytesOfT Try.prog 61 = some 8 := by kernel_rfl
theorem ag61 : aggT Try.prog 61 = some false := by kernel_rfl
theorem zr61 : zeroOfT Try.prog 61 = some (.pointer none) := by kernel_rfl
theorem sz63 : sizeOfT Try.prog 63 = some 4 := by kernel_rfl
theorem by63 : bytesOfT Try.prog 63 = some 80 := by kernel_rfl
theorem ag63 : aggT Try.prog 63 = some true := by kernel_rfl
theorem zr63 : zeroOfT Try.prog 63 = some (.agg #[.slice none 0 0, .slice none 0 0, .slice none 0 0, .bool false]) := by kernel_rfl
theorem pl63 : placesT Try.prog 63 = some #[(0, 1), (1, 1), (2, 1), (3, 1)] := by kernel_rfl
theorem sz65 : sizeOfT Try.prog 65 = some 1 := by kernel_rfl
theorem by65 : bytesOfT Try.prog 65 = some 8 := by kernel_rfl
theorem ag65 : aggT Try.prog 65 = some false := by kernel_rfl
theorem zr65 : zeroOfT Try.prog 65 = some (.map none) := by kernel_rfl
theorem sz66 : sizeOfT Try.prog 66 = some 0 := by kernel_rfl
theorem by66 : bytesOfT Try.prog 66 = some 0 := by kernel_rfl
theorem ag66 : aggT Try.prog 66 = some true := by kernel_rfl
theorem zr66 : zeroOfT Try.prog 66 = some (.agg #[]) := by kernel_rfl
theorem pl66 : placesT Try.prog 66 = some #[] := by kernel_rfl
theorem sz69 : sizeOfT Try.prog 69 = some 1 := by kernel_rfl
theorem by69 : bytesOfT Try.prog 69 = some 24 := by kernel_rfl
theorem ag69 : aggT Try.prog 69 = some false := by kernel_rfl
theorem zr69 : zeroOfT Try.prog 69 = some (.slice none 0 0) := by kernel_rfl
theorem sz74 : sizeOfT Try.prog 74 = some 2 := by kernel_rfl
theorem by74 : bytesOfT Try.prog 74 = some 24 := by kernel_rfl
theorem ag74 : aggT Try.prog 74 = some true := by kernel_rfl
theorem pl74 : placesT Try.prog 74 = some #[(0, 1), (1, 1)] := by kernel_rfl
theorem sz81 : sizeOfT Try.prog 81 = some 1 := by kernel_rfl
theorem by81 : bytesOfT Try.prog 81 = some 8 := by kernel_rfl
theorem ag81 : aggT Try.prog 81 = some false := by kernel_rfl
theorem zr81 : zeroOfT Try.prog 81 = some (.pointer none) := by kernel_rfl
theorem sz85 : sizeOfT Try.prog 85 = some 1 := by kernel_rfl
theorem by85 : bytesOfT Try.prog 85 = some 8 := by kernel_rfl
theorem ag85 : aggT Try.prog 85 = some false := by kernel_rfl
theorem zr85 : zeroOfT Try.prog 85 = some (.int .u64 0) := by kernel_rfl
theorem sz86 : sizeOfT Try.prog 86 = some 1 := by kernel_rfl
theorem by86 : bytesOfT Try.prog 86 = some 4 := by kernel_rfl
theorem ag86 : aggT Try.prog 86 = some false := by kernel_rfl
theorem zr86 : zeroOfT Try.prog 86 = some (.int .u32 0) := by kernel_rfl
theorem sz92 : sizeOfT Try.prog 92 = some 1 := by kernel_rfl
theorem by92 : bytesOfT Try.prog 92 = some 24 := by kernel_rfl
theorem ag92 : aggT Try.prog 92 = some false := by kernel_rfl
theorem zr92 : zeroOfT Try.prog 92 = some (.slice none 0 0) := by kernel_rfl
theorem sz95 : sizeOfT Try.prog 95 = some 1 := by kernel_rfl
theorem by95 : bytesOfT Try.prog 95 = some 24 := by kernel_rfl
theorem ag95 : aggT Try.prog 95 = some true := by kernel_rfl
theorem zr95 : zeroOfT Try.prog 95 = some (.agg #[.slice none 0 0]) := by kernel_rfl
theorem pl95 : placesT Try.prog 95 = some #[(0, 1)] := by kernel_rfl
theorem fT32_0 : fieldT Try.prog 32 0 = some 0 := by kernel_rfl
theorem fT32_1 : fieldT Try.prog 32 1 = some 1 := by kernel_rfl
theorem fT32_2 : fieldT Try.prog 32 2 = some 2 := by kernel_rfl
theorem fT32_3 : fieldT Try.prog 32 3 = some 3 := by kernel_rfl
theorem fT32_4 : fieldT Try.prog 32 4 = some 4 := by kernel_rfl
theorem fT32_5 : fieldT Try.prog 32 5 = some 8 := by kernel_rfl
theorem fT32_6 : fieldT Try.prog 32 6 = some 9 := by kernel_rfl
theorem fT32_7 : fieldT Try.prog 32 7 = some 10 := by kernel_rfl
theorem fT32_8 : fieldT Try.prog 32 8 = some 11 := by kernel_rfl
theorem fT51_0 : fieldT Try.prog 51 0 = some 0 := by kernel_rfl
theorem fT51_1 : fieldT Try.prog 51 1 = some 1 := by kernel_rfl
theorem fT59_0 : fieldT Try.prog 59 0 = some 0 := by kernel_rfl
theorem fT59_1 : fieldT Try.prog 59 1 = some 1 := by kernel_rfl
theorem fT63_0 : fieldT Try.prog 63 0 = some 0 := by kernel_rfl
theorem fT63_1 : fieldT Try.prog 63 1 = some 1 := by kernel_rfl
theorem fT63_2 : fieldT Try.prog 63 2 = some 2 := by kernel_rfl
theorem fT63_3 : fieldT Try.prog 63 3 = some 3 := by kernel_rfl
theorem fT74_0 : fieldT Try.prog 74 0 = some 0 := by kernel_rfl
theorem fT74_1 : fieldT Try.prog 74 1 = some 1 := by kernel_rfl
theorem fT95_0 : fieldT Try.prog 95 0 = some 0 := by kernel_rfl
theorem bd3 : Bodied Try.prog 3 = true := by kernel_rfl
theorem bd4 : Bodied Try.prog 4 = true := by kernel_rfl
theorem bd5 : Bodied Try.prog 5 = true := by kernel_rfl
theorem bd6 : Bodied Try.prog 6 = true := by kernel_rfl
theorem bd7 : Bodied Try.prog 7 = true := by kernel_rfl
theorem bd8 : Bodied Try.prog 8 = true := by kernel_rfl
theorem bd9 : Bodied Try.prog 9 = true := by kernel_rfl
theorem bd10 : Bodied Try.prog 10 = true := by kernel_rfl
theorem bd11 : Bodied Try.prog 11 = true := by kernel_rfl
theorem bd12 : Bodied Try.prog 12 = true := by kernel_rfl
theorem bd13 : Bodied Try.prog 13 = true := by kernel_rfl
theorem bd14 : Bodied Try.prog 14 = true := by kernel_rfl
theorem bd15 : Bodied Try.prog 15 = true := by kernel_rfl
theorem bd16 : Bodied Try.prog 16 = true := by kernel_rfl
theorem bd17 : Bodied Try.prog 17 = true := by kernel_rfl
theorem bd18 : Bodied Try.prog 18 = true := by kernel_rfl
theorem bd19 : Bodied Try.prog 19 = true := by kernel_rfl
theorem bd20 : Bodied Try.prog 20 = true := by kernel_rfl
theorem bd21 : Bodied Try.prog 21 = true := by kernel_rfl
theorem bd22 : Bodied Try.prog 22 = true := by kernel_rfl
theorem bd23 : Bodied Try.prog 23 = true := by kernel_rfl
theorem bd24 : Bodied Try.prog 24 = true := by kernel_rfl
theorem bd25 : Bodied Try.prog 25 = true := by kernel_rfl
theorem bd26 : Bodied Try.prog 26 = true := by kernel_rfl
theorem bd27 : Bodied Try.prog 27 = true := by kernel_rfl
theorem bd28 : Bodied Try.prog 28 = true := by kernel_rfl
theorem bd29 : Bodied Try.prog 29 = true := by kernel_rfl
theorem bd30 : Bodied Try.prog 30 = true := by kernel_rfl
theorem bd31 : Bodied Try.prog 31 = true := by kernel_rfl
theorem bd32 : Bodied Try.prog 32 = true := by kernel_rfl
theorem bd33 : Bodied Try.prog 33 = true := by kernel_rfl
theorem bd34 : Bodied Try.prog 34 = true := by kernel_rfl
theorem bd35 : Bodied Try.prog 35 = true := by kernel_rfl
theorem bd36 : Bodied Try.prog 36 = true := by kernel_rfl
theorem bd37 : Bodied Try.prog 37 = true := by kernel_rfl
theorem bd38 : Bodied Try.prog 38 = true := by kernel_rfl
theorem bd39 : Bodied Try.prog 39 = true := by kernel_rfl
theorem bd40 : Bodied Try.prog 40 = true := by kernel_rfl
theorem bd41 : Bodied Try.prog 41 = true := by kernel_rfl
theorem bd42 : Bodied Try.prog 42 = true := by kernel_rfl
theorem bd43 : Bodied Try.prog 43 = true := by kernel_rfl
theorem bd44 : Bodied Try.prog 44 = true := by kernel_rfl
theorem bd45 : Bodied Try.prog 45 = true := by kernel_rfl
theorem bd46 : Bodied Try.prog 46 = true := by kernel_rfl
theorem bd47 : Bodied Try.prog 47 = true := by kernel_rfl
theorem bd48 : Bodied Try.prog 48 = true := by kernel_rfl
theorem bd49 : Bodied Try.prog 49 = true := by kernel_rfl
theorem bd50 : Bodied Try.prog 50 = true := by kernel_rfl
theorem bd51 : Bodied Try.prog 51 = true := by kernel_rfl
theorem bd52 : Bodied Try.prog 52 = true := by kernel_rfl
theorem bd53 : Bodied Try.prog 53 = true := by kernel_rfl
theorem bd54 : Bodied Try.prog 54 = true := by kernel_rfl
theorem bd55 : Bodied Try.prog 55 = true := by kernel_rfl
theorem bd56 : Bodied Try.prog 56 = true := by kernel_rfl
theorem bd57 : Bodied Try.prog 57 = true := by kernel_rfl
theorem bd58 : Bodied Try.prog 58 = true := by kernel_rfl
theorem bd59 : Bodied Try.prog 59 = true := by kernel_rfl
theorem bd60 : Bodied Try.prog 60 = true := by kernel_rfl
theorem bd61 : Bodied Try.prog 61 = true := by kernel_rfl
theorem bd62 : Bodied Try.prog 62 = true := by kernel_rfl
theorem bd63 : Bodied Try.prog 63 = true := by kernel_rfl
theorem bd64 : Bodied Try.prog 64 = true := by kernel_rfl
theorem bd65 : Bodied Try.prog 65 = true := by kernel_rfl
theorem bd66 : Bodied Try.prog 66 = true := by kernel_rfl
theorem bd67 : Bodied Try.prog 67 = true := by kernel_rfl
theorem bd68 : Bodied Try.prog 68 = true := by kernel_rfl
end Go.Proofs.Ytifmdcjncbbcgaa.K
