/- part 8 of the proof: contracts of the functions that the law reaches, and plain laws. -/
import Derived.Test.YtflgnpidelkkpaaGreatProg
import Derived.Test.YtflgnpidelkkpaaGreatMq6
import Derived.Test.YtflgnpidelkkpaaGreatMq7
import Derived.Test.YtflgnpidelkkpaaGreatMq1
namespace Go.Proofs.YtflgnpidelkkpaaGreat
instance : NA Tryz.prog 3 := ⟨by kernel_rfl⟩
instance : SZ Tryz.prog 3 1 8 := ⟨by kernel_rfl⟩
instance : ZR Tryz.prog 3 (.int .i64 0) [.int .i64 0] := ⟨by kernel_rfl, rfl⟩
instance : UT Tryz.prog 3 (.int .i64) := ⟨by kernel_rfl⟩
instance : NA Tryz.prog 4 := ⟨by kernel_rfl⟩
instance : SZ Tryz.prog 4 1 1 := ⟨by kernel_rfl⟩
instance : UT Tryz.prog 4 (.bool) := ⟨by kernel_rfl⟩
instance : UT Tryz.prog 5 (.int .u8) := ⟨by kernel_rfl⟩
instance : NA Tryz.prog 22 := ⟨by kernel_rfl⟩
instance : SZ Tryz.prog 22 1 24 := ⟨by kernel_rfl⟩
instance : UT Tryz.prog 22 (.slice 64) := ⟨by kernel_rfl⟩
instance : NA Tryz.prog 23 := ⟨by kernel_rfl⟩
instance : SZ Tryz.prog 23 1 24 := ⟨by kernel_rfl⟩
instance : UT Tryz.prog 23 (.slice 84) := ⟨by kernel_rfl⟩
instance : NA Tryz.prog 24 := ⟨by kernel_rfl⟩
instance : SZ Tryz.prog 24 1 24 := ⟨by kernel_rfl⟩
instance : UT Tryz.prog 24 (.slice 86) := ⟨by kernel_rfl⟩
instance : AG Tryz.prog 26 := ⟨by kernel_rfl⟩
instance : SZ Tryz.prog 26 9 120 := ⟨by kernel_rfl⟩
instance : ZR Tryz.prog 26 (.agg #[.slice none 0 0, .slice none 0 0, .slice none 0 0, .int .i64 0, .int .i64 0, .int .i64 0, .int .i64 0, .int .i64 0, .int .i64 0]) [.slice none 0 0, .slice none 0 0, .slice none 0 0, .int .i64 0, .int .i64 0, .int .i64 0, .int .i64 0, .int .i64 0, .int .i64 0] := ⟨by kernel_rfl, rfl⟩
instance : FO Tryz.prog 26 0 22 0 := ⟨by kernel_rfl⟩
instance : FO Tryz.prog 26 1 23 1 := ⟨by kernel_rfl⟩
instance : FO Tryz.prog 26 2 24 2 := ⟨by kernel_rfl⟩
instance : FO Tryz.prog 26 3 3 3 := ⟨by kernel_rfl⟩
instance : FO Tryz.prog 26 4 3 4 := ⟨by kernel_rfl⟩
instance : FO Tryz.prog 26 5 3 5 := ⟨by kernel_rfl⟩
instance : FO Tryz.prog 26 6 3 6 := ⟨by kernel_rfl⟩
instance : FO Tryz.prog 26 7 3 7 := ⟨by kernel_rfl⟩
instance : FO Tryz.prog 26 8 3 8 := ⟨by kernel_rfl⟩
instance : PL Tryz.prog 26 [(0, 1), (1, 1), (2, 1), (3, 1), (4, 1), (5, 1), (6, 1), (7, 1), (8, 1)] := ⟨by kernel_rfl⟩
instance : UT Tryz.prog 27 (.slice 35) := ⟨by kernel_rfl⟩
instance : UT Tryz.prog 28 (.pointer 108) := ⟨by kernel_rfl⟩
instance : NA Tryz.prog 31 := ⟨by kernel_rfl⟩
instance : SZ Tryz.prog 31 1 24 := ⟨by kernel_rfl⟩
instance : UT Tryz.prog 31 (.slice 3) := ⟨by kernel_rfl⟩
instance : AG Tryz.prog 33 := ⟨by kernel_rfl⟩
instance : SZ Tryz.prog 33 4 64 := ⟨by kernel_rfl⟩
instance : ZR Tryz.prog 33 (.agg #[.int .i64 0, .int .i64 0, .slice none 0 0, .slice none 0 0]) [.int .i64 0, .int .i64 0, .slice none 0 0, .slice none 0 0] := ⟨by kernel_rfl, rfl⟩
instance : FO Tryz.prog 33 0 3 0 := ⟨by kernel_rfl⟩
instance : FO Tryz.prog 33 1 3 1 := ⟨by kernel_rfl⟩
instance : FO Tryz.prog 33 2 31 2 := ⟨by kernel_rfl⟩
instance : FO Tryz.prog 33 3 31 3 := ⟨by kernel_rfl⟩
instance : PL Tryz.prog 33 [(0, 1), (1, 1), (2, 1), (3, 1)] := ⟨by kernel_rfl⟩
instance : AG Tryz.prog 35 := ⟨by kernel_rfl⟩
instance : SZ Tryz.prog 35 8 96 := ⟨by kernel_rfl⟩
instance : ZR Tryz.prog 35 (.agg #[.int .i64 0, .int .i64 0, .int .i64 0, .int .i64 0, .int .i64 0, .int .i64 0, .slice none 0 0, .slice none 0 0]) [.int .i64 0, .int .i64 0, .int .i64 0, .int .i64 0, .int .i64 0, .int .i64 0, .slice none 0 0, .slice none 0 0] := ⟨by kernel_rfl, rfl⟩
instance : FO Tryz.prog 35 0 3 0 := ⟨by kernel_rfl⟩
instance : FO Tryz.prog 35 1 3 1 := ⟨by kernel_rfl⟩
instance : FO Tryz.prog 35 2 3 2 := ⟨by kernel_rfl⟩
instance : FO Tryz.prog 35 3 3 3 := ⟨by kernel_rfl⟩
instance : FO Tryz.prog 35 4 33 4 := ⟨by kernel_rfl⟩
instance : PL Tryz.prog 35 [(0, 1), (1, 1), (2, 1), (3, 1), (4, 4)] := ⟨by kernel_rfl⟩
instance : NA Tryz.prog 44 := ⟨by kernel_rfl⟩
instance : SZ Tryz.prog 44 1 24 := ⟨by kernel_rfl⟩
instance : UT Tryz.prog 44 (.slice 52) := ⟨by kernel_rfl⟩
instance : AG Tryz.prog 48 := ⟨by kernel_rfl⟩
instance : SZ Tryz.prog 48 4 32 := ⟨by kernel_rfl⟩
instance : ZR Tryz.prog 48 (.agg #[.int .i64 0, .int .i64 0, .int .i64 0, .int .i64 0]) [.int .i64 0, .int .i64 0, .int .i64 0, .int .i64 0] := ⟨by kernel_rfl, rfl⟩
instance : FO Tryz.prog 48 0 3 0 := ⟨by kernel_rfl⟩
instance : FO Tryz.prog 48 1 3 1 := ⟨by kernel_rfl⟩
instance : FO Tryz.prog 48 2 3 2 := ⟨by kernel_rfl⟩
instance : FO Tryz.prog 48 3 3 3 := ⟨by kernel_rfl⟩
instance : EQ Tryz.prog 48 [false, false, false, false] := ⟨by kernel_rfl, by kernel_rfl, by kernel_rfl⟩
instance : PL Tryz.prog 48 [(0, 1), (1, 1), (2, 1), (3, 1)] := ⟨by kernel_rfl⟩
instance : AG Tryz.prog 52 := ⟨by kernel_rfl⟩
instance : SZ Tryz.prog 52 6 48 := ⟨by kernel_rfl⟩
instance : ZR Tryz.prog 52 (.agg #[.int .i64 0, .int .i64 0, .int .i64 0, .int .i64 0, .int .i64 0, .int .i64 0]) [.int .i64 0, .int .i64 0, .int .i64 0, .int .i64 0, .int .i64 0, .int .i64 0] := ⟨by kernel_rfl, rfl⟩
instance : FO Tryz.prog 52 0 3 0 := ⟨by kernel_rfl⟩
instance : FO Tryz.prog 52 1 3 1 := ⟨by kernel_rfl⟩
instance : FO Tryz.prog 52 2 3 2 := ⟨by kernel_rfl⟩
instance : FO Tryz.prog 52 3 3 3 := ⟨by kernel_rfl⟩
instance : FO Tryz.prog 52 4 3 4 := ⟨by kernel_rfl⟩
instance : FO Tryz.prog 52 5 3 5 := ⟨by kernel_rfl⟩
instance : EQ Tryz.prog 52 [false, false, false, false, false, false] := ⟨by kernel_rfl, by kernel_rfl, by kernel_rfl⟩
instance : PL Tryz.prog 52 [(0, 1), (1, 1), (2, 1), (3, 1), (4, 1), (5, 1)] := ⟨by kernel_rfl⟩
instance : NA Tryz.prog 55 := ⟨by kernel_rfl⟩
instance : SZ Tryz.prog 55 1 24 := ⟨by kernel_rfl⟩
instance : UT Tryz.prog 55 (.slice 66) := ⟨by kernel_rfl⟩
instance : UT Tryz.prog 57 (.int .u16) := ⟨by kernel_rfl⟩
instance : NA Tryz.prog 58 := ⟨by kernel_rfl⟩
instance : UT Tryz.prog 58 (.slice 33) := ⟨by kernel_rfl⟩
instance : AG Tryz.prog 64 := ⟨by kernel_rfl⟩
instance : SZ Tryz.prog 64 2 16 := ⟨by kernel_rfl⟩
instance : ZR Tryz.prog 64 (.agg #[.int .i64 0, .int .i64 0]) [.int .i64 0, .int .i64 0] := ⟨by kernel_rfl, rfl⟩
instance : FO Tryz.prog 64 0 3 0 := ⟨by kernel_rfl⟩
instance : FO Tryz.prog 64 1 3 1 := ⟨by kernel_rfl⟩
instance : PL Tryz.prog 64 [(0, 1), (1, 1)] := ⟨by kernel_rfl⟩
instance : AG Tryz.prog 66 := ⟨by kernel_rfl⟩
instance : SZ Tryz.prog 66 4 32 := ⟨by kernel_rfl⟩
instance : ZR Tryz.prog 66 (.agg #[.int .i64 0, .int .i64 0, .int .i64 0, .int .i64 0]) [.int .i64 0, .int .i64 0, .int .i64 0, .int .i64 0] := ⟨by kernel_rfl, rfl⟩
instance : FO Tryz.prog 66 0 3 0 := ⟨by kernel_rfl⟩
instance : FO Tryz.prog 66 3 3 3 := ⟨by kernel_rfl⟩
instance : EQ Tryz.prog 66 [false, false, false, false] := ⟨by kernel_rfl, by kernel_rfl, by kernel_rfl⟩
instance : PL Tryz.prog 66 [(0, 1), (1, 1), (2, 1), (3, 1)] := ⟨by kernel_rfl⟩
instance : AG Tryz.prog 72 := ⟨by kernel_rfl⟩
instance : SZ Tryz.prog 72 2 16 := ⟨by kernel_rfl⟩
instance : ZR Tryz.prog 72 (.agg #[.int .i64 0, .int .i64 0]) [.int .i64 0, .int .i64 0] := ⟨by kernel_rfl, rfl⟩
instance : FO Tryz.prog 72 0 3 0 := ⟨by kernel_rfl⟩
instance : FO Tryz.prog 72 1 3 1 := ⟨by kernel_rfl⟩
instance : EQ Tryz.prog 72 [false, false] := ⟨by kernel_rfl, by kernel_rfl, by kernel_rfl⟩
instance : PL Tryz.prog 72 [(0, 1), (1, 1)] := ⟨by kernel_rfl⟩
instance : NA Tryz.prog 78 := ⟨by kernel_rfl⟩
instance : UT Tryz.prog 78 (.slice 142) := ⟨by kernel_rfl⟩
instance : NA Tryz.prog 81 := ⟨by kernel_rfl⟩
instance : SZ Tryz.prog 81 1 24 := ⟨by kernel_rfl⟩
instance : UT Tryz.prog 81 (.slice 144) := ⟨by kernel_rfl⟩
instance : AG Tryz.prog 84 := ⟨by kernel_rfl⟩
instance : SZ Tryz.prog 84 6 48 := ⟨by kernel_rfl⟩
instance : ZR Tryz.prog 84 (.agg #[.int .i64 0, .int .i64 0, .int .i64 0, .int .i64 0, .int .i64 0, .int .i64 0]) [.int .i64 0, .int .i64 0, .int .i64 0, .int .i64 0, .int .i64 0, .int .i64 0] := ⟨by kernel_rfl, rfl⟩
instance : FO Tryz.prog 84 0 3 0 := ⟨by kernel_rfl⟩
instance : FO Tryz.prog 84 1 3 1 := ⟨by kernel_rfl⟩
instance : FO Tryz.prog 84 2 3 2 := ⟨by kernel_rfl⟩
instance : FO Tryz.prog 84 3 3 3 := ⟨by kernel_rfl⟩
instance : FO Tryz.prog 84 4 3 4 := ⟨by kernel_rfl⟩
instance : FO Tryz.prog 84 5 3 5 := ⟨by kernel_rfl⟩
instance : PL Tryz.prog 84 [(0, 1), (1, 1), (2, 1), (3, 1), (4, 1), (5, 1)] := ⟨by kernel_rfl⟩
instance : AG Tryz.prog 86 := ⟨by kernel_rfl⟩
instance : SZ Tryz.prog 86 7 56 := ⟨by kernel_rfl⟩
instance : ZR Tryz.prog 86 (.agg #[.int .i64 0, .int .i64 0, .int .i64 0, .int .i64 0, .int .i64 0, .int .i64 0, .int .i64 0]) [.int .i64 0, .int .i64 0, .int .i64 0, .int .i64 0, .int .i64 0, .int .i64 0, .int .i64 0] := ⟨by kernel_rfl, rfl⟩
instance : FO Tryz.prog 86 0 3 0 := ⟨by kernel_rfl⟩
instance : FO Tryz.prog 86 1 3 1 := ⟨by kernel_rfl⟩
instance : FO Tryz.prog 86 2 3 2 := ⟨by kernel_rfl⟩
instance : FO Tryz.prog 86 3 3 3 := ⟨by kernel_rfl⟩
instance : FO Tryz.prog 86 4 3 4 := ⟨by kernel_rfl⟩
instance : FO Tryz.prog 86 5 3 5 := ⟨by kernel_rfl⟩
instance : FO Tryz.prog 86 6 3 6 := ⟨by kernel_rfl⟩
instance : AG Tryz.prog 94 := ⟨by kernel_rfl⟩
instance : SZ Tryz.prog 94 34 368 := ⟨by kernel_rfl⟩
instance : ZR Tryz.prog 94 (.agg #[.int .i64 0, .int .i64 0, .bool false, .int .i64 0, .int .i64 0, .int .i64 0, .int .i64 0, .int .i64 0, .int .i64 0, .int .i64 0, .int .i64 0, .int .i64 0, .int .i64 0, .int .i64 0, .int .i64 0, .int .i64 0, .int .i64 0, .int .i64 0, .int .i64 0, .int .i64 0, .int .i64 0, .int .i64 0, .int .i64 0, .int .i64 0, .int .i64 0, .int .i64 0, .int .i64 0, .int .i64 0, .slice none 0 0, .slice none 0 0, .slice none 0 0, .slice none 0 0, .slice none 0 0, .slice none 0 0]) [.int .i64 0, .int .i64 0, .bool false, .int .i64 0, .int .i64 0, .int .i64 0, .int .i64 0, .int .i64 0, .int .i64 0, .int .i64 0, .int .i64 0, .int .i64 0, .int .i64 0, .int .i64 0, .int .i64 0, .int .i64 0, .int .i64 0, .int .i64 0, .int .i64 0, .int .i64 0, .int .i64 0, .int .i64 0, .int .i64 0, .int .i64 0, .int .i64 0, .int .i64 0, .int .i64 0, .int .i64 0, .slice none 0 0, .slice none 0 0, .slice none 0 0, .slice none 0 0, .slice none 0 0, .slice none 0 0] := ⟨by kernel_rfl, rfl⟩
instance : FO Tryz.prog 94 0 3 0 := ⟨by kernel_rfl⟩
instance : FO Tryz.prog 94 1 3 1 := ⟨by kernel_rfl⟩
instance : FO Tryz.prog 94 2 4 2 := ⟨by kernel_rfl⟩
instance : FO Tryz.prog 94 3 90 3 := ⟨by kernel_rfl⟩
instance : FO Tryz.prog 94 4 90 9 := ⟨by kernel_rfl⟩
instance : FO Tryz.prog 94 5 91 15 := ⟨by kernel_rfl⟩
instance : FO Tryz.prog 94 6 92 21 := ⟨by kernel_rfl⟩
instance : FO Tryz.prog 94 7 48 24 := ⟨by kernel_rfl⟩
instance : FO Tryz.prog 94 8 78 28 := ⟨by kernel_rfl⟩
instance : FO Tryz.prog 94 9 31 29 := ⟨by kernel_rfl⟩
instance : FO Tryz.prog 94 10 81 30 := ⟨by kernel_rfl⟩
instance : FO Tryz.prog 94 11 58 31 := ⟨by kernel_rfl⟩
instance : FO Tryz.prog 94 12 44 32 := ⟨by kernel_rfl⟩
instance : FO Tryz.prog 94 13 55 33 := ⟨by kernel_rfl⟩
instance : PL Tryz.prog 94 [(0, 1), (1, 1), (2, 1), (3, 6), (9, 6), (15, 6), (21, 3), (24, 4), (28, 1), (29, 1), (30, 1), (31, 1), (32, 1), (33, 1)] := ⟨by kernel_rfl⟩
instance : NA Tryz.prog 100 := ⟨by kernel_rfl⟩
instance : UT Tryz.prog 100 (.chan .both 201) := ⟨by kernel_rfl⟩
instance : NA Tryz.prog 101 := ⟨by kernel_rfl⟩
instance : UT Tryz.prog 101 (.pointer 174) := ⟨by kernel_rfl⟩
instance : NA Tryz.prog 102 := ⟨by kernel_rfl⟩
instance : UT Tryz.prog 102 (.pointer 176) := ⟨by kernel_rfl⟩
instance : NA Tryz.prog 103 := ⟨by kernel_rfl⟩
instance : UT Tryz.prog 103 (.pointer 179) := ⟨by kernel_rfl⟩
instance : NA Tryz.prog 104 := ⟨by kernel_rfl⟩
instance : UT Tryz.prog 104 (.pointer 181) := ⟨by kernel_rfl⟩
instance : NA Tryz.prog 105 := ⟨by kernel_rfl⟩
instance : UT Tryz.prog 105 (.slice 72) := ⟨by kernel_rfl⟩
instance : NA Tryz.prog 106 := ⟨by kernel_rfl⟩
instance : UT Tryz.prog 106 (.pointer 162) := ⟨by kernel_rfl⟩
instance : ZR Tryz.prog 108 (.agg #[.slice none 0 0, .slice none 0 0, .slice none 0 0, .int .i64 0, .int .i64 0, .int .i64 0, .int .i64 0, .int .i64 0, .int .i64 0, .int .i64 0, .int .i64 0, .int .i64 0, .bool false, .chan none, .slice none 0 0, .slice none 0 0, .slice none 0 0, .pointer none, .slice none 0 0, .bool false, .pointer none, .pointer none, .pointer none, .slice none 0 0, .slice none 0 0, .bool false, .int .i64 0, .int .i64 0, .pointer none, .int .i64 0, .int .i64 0, .int .i64 0, .int .i64 0, .slice none 0 0]) [.slice none 0 0, .slice none 0 0, .slice none 0 0, .int .i64 0, .int .i64 0, .int .i64 0, .int .i64 0, .int .i64 0, .int .i64 0, .int .i64 0, .int .i64 0, .int .i64 0, .bool false, .chan none, .slice none 0 0, .slice none 0 0, .slice none 0 0, .pointer none, .slice none 0 0, .bool false, .pointer none, .pointer none, .pointer none, .slice none 0 0, .slice none 0 0, .bool false, .int .i64 0, .int .i64 0, .pointer none, .int .i64 0, .int .i64 0, .int .i64 0, .int .i64 0, .slice none 0 0] := ⟨by kernel_rfl, rfl⟩
instance : FO Tryz.prog 108 0 26 0 := ⟨by kernel_rfl⟩
instance : FO Tryz.prog 108 1 3 9 := ⟨by kernel_rfl⟩
instance : FO Tryz.prog 108 2 3 10 := ⟨by kernel_rfl⟩
instance : FO Tryz.prog 108 3 3 11 := ⟨by kernel_rfl⟩
instance : FO Tryz.prog 108 4 4 12 := ⟨by kernel_rfl⟩
instance : FO Tryz.prog 108 5 100 13 := ⟨by kernel_rfl⟩
instance : FO Tryz.prog 108 6 58 14 := ⟨by kernel_rfl⟩
instance : FO Tryz.prog 108 7 31 15 := ⟨by kernel_rfl⟩
instance : FO Tryz.prog 108 8 31 16 := ⟨by kernel_rfl⟩
instance : FO Tryz.prog 108 9 101 17 := ⟨by kernel_rfl⟩
instance : FO Tryz.prog 108 10 31 18 := ⟨by kernel_rfl⟩
instance : FO Tryz.prog 108 11 4 19 := ⟨by kernel_rfl⟩
instance : FO Tryz.prog 108 12 102 20 := ⟨by kernel_rfl⟩
instance : FO Tryz.prog 108 13 103 21 := ⟨by kernel_rfl⟩
instance : FO Tryz.prog 108 14 104 22 := ⟨by kernel_rfl⟩
instance : FO Tryz.prog 108 15 105 23 := ⟨by kernel_rfl⟩
instance : FO Tryz.prog 108 16 31 24 := ⟨by kernel_rfl⟩
instance : FO Tryz.prog 108 17 4 25 := ⟨by kernel_rfl⟩
instance : FO Tryz.prog 108 18 3 26 := ⟨by kernel_rfl⟩
instance : FO Tryz.prog 108 19 3 27 := ⟨by kernel_rfl⟩
instance : FO Tryz.prog 108 20 106 28 := ⟨by kernel_rfl⟩
instance : FO Tryz.prog 108 21 48 29 := ⟨by kernel_rfl⟩
instance : FO Tryz.prog 108 22 55 33 := ⟨by kernel_rfl⟩
instance : PL Tryz.prog 108 [(0, 9), (9, 1), (10, 1), (11, 1), (12, 1), (13, 1), (14, 1), (15, 1), (16, 1), (17, 1), (18, 1), (19, 1), (20, 1), (21, 1), (22, 1), (23, 1), (24, 1), (25, 1), (26, 1), (27, 1), (28, 1), (29, 4), (33, 1)] := ⟨by kernel_rfl⟩
instance : AG Tryz.prog 142 := ⟨by kernel_rfl⟩
instance : SZ Tryz.prog 142 6 48 := ⟨by kernel_rfl⟩
instance : ZR Tryz.prog 142 (.agg #[.int .i64 0, .int .i64 0, .int .i64 0, .int .i64 0, .int .i64 0, .bool false]) [.int .i64 0, .int .i64 0, .int .i64 0, .int .i64 0, .int .i64 0, .bool false] := ⟨by kernel_rfl, rfl⟩
instance : FO Tryz.prog 142 0 3 0 := ⟨by kernel_rfl⟩
instance : FO Tryz.prog 142 2 3 2 := ⟨by kernel_rfl⟩
instance : FO Tryz.prog 142 3 3 3 := ⟨by kernel_rfl⟩
instance : FO Tryz.prog 142 4 3 4 := ⟨by kernel_rfl⟩
instance : FO Tryz.prog 142 5 4 5 := ⟨by kernel_rfl⟩
instance : EQ Tryz.prog 142 [false, false, false, false, false, true] := ⟨by kernel_rfl, by kernel_rfl, by kernel_rfl⟩
instance : PL Tryz.prog 142 [(0, 1), (1, 1), (2, 1), (3, 1), (4, 1), (5, 1)] := ⟨by kernel_rfl⟩
instance : AG Tryz.prog 144 := ⟨by kernel_rfl⟩
instance : SZ Tryz.prog 144 3 24 := ⟨by kernel_rfl⟩
instance : ZR Tryz.prog 144 (.agg #[.int .i64 0, .int .i64 0, .int .i64 0]) [.int .i64 0, .int .i64 0, .int .i64 0] := ⟨by kernel_rfl, rfl⟩
instance : FO Tryz.prog 144 0 3 0 := ⟨by kernel_rfl⟩
instance : FO Tryz.prog 144 1 3 1 := ⟨by kernel_rfl⟩
instance : FO Tryz.prog 144 2 3 2 := ⟨by kernel_rfl⟩
instance : EQ Tryz.prog 144 [false, false, false] := ⟨by kernel_rfl, by kernel_rfl, by kernel_rfl⟩
instance : PL Tryz.prog 144 [(0, 1), (1, 1), (2, 1)] := ⟨by kernel_rfl⟩
instance : ZR Tryz.prog 162 (.agg #[.slice none 0 0]) [.slice none 0 0] := ⟨by kernel_rfl, rfl⟩
instance : FO Tryz.prog 162 0 44 0 := ⟨by kernel_rfl⟩
instance : PL Tryz.prog 162 [(0, 1)] := ⟨by kernel_rfl⟩
instance : NA Tryz.prog 170 := ⟨by kernel_rfl⟩
instance : UT Tryz.prog 170 (.pointer 218) := ⟨by kernel_rfl⟩
instance : NA Tryz.prog 172 := ⟨by kernel_rfl⟩
instance : MT Tryz.prog 172 142 (.agg #[.int .i64 0, .int .i64 0, .int .i64 0, .int .i64 0, .int .i64 0, .bool false]) := ⟨⟨3, by kernel_rfl, .i64, by kernel_rfl⟩, by kernel_rfl⟩
instance : ZR Tryz.prog 174 (.agg #[.pointer none, .map none]) [.pointer none, .map none] := ⟨by kernel_rfl, rfl⟩
instance : FO Tryz.prog 174 0 170 0 := ⟨by kernel_rfl⟩
instance : FO Tryz.prog 174 1 172 1 := ⟨by kernel_rfl⟩
instance : PL Tryz.prog 174 [(0, 1), (1, 1)] := ⟨by kernel_rfl⟩
instance : ZR Tryz.prog 176 (.agg #[.slice none 0 0]) [.slice none 0 0] := ⟨by kernel_rfl, rfl⟩
instance : FO Tryz.prog 176 0 81 0 := ⟨by kernel_rfl⟩
instance : PL Tryz.prog 176 [(0, 1)] := ⟨by kernel_rfl⟩
instance : NA Tryz.prog 177 := ⟨by kernel_rfl⟩
instance : MT Tryz.prog 177 3 (.int .i64 0) := ⟨⟨3, by kernel_rfl, .i64, by kernel_rfl⟩, by kernel_rfl⟩
instance : ZR Tryz.prog 179 (.agg #[.pointer none, .map none]) [.pointer none, .map none] := ⟨by kernel_rfl, rfl⟩
instance : FO Tryz.prog 179 0 170 0 := ⟨by kernel_rfl⟩
instance : FO Tryz.prog 179 1 177 1 := ⟨by kernel_rfl⟩
instance : PL Tryz.prog 179 [(0, 1), (1, 1)] := ⟨by kernel_rfl⟩
instance : ZR Tryz.prog 181 (.agg #[.pointer none, .map none]) [.pointer none, .map none] := ⟨by kernel_rfl, rfl⟩
instance : FO Tryz.prog 181 0 170 0 := ⟨by kernel_rfl⟩
instance : FO Tryz.prog 181 1 177 1 := ⟨by kernel_rfl⟩
instance : PL Tryz.prog 181 [(0, 1), (1, 1)] := ⟨by kernel_rfl⟩
instance : NA Tryz.prog 216 := ⟨by kernel_rfl⟩
instance : SZ Tryz.prog 216 1 24 := ⟨by kernel_rfl⟩
instance : UT Tryz.prog 216 (.slice 249) := ⟨by kernel_rfl⟩
instance : ZR Tryz.prog 218 (.agg #[.slice none 0 0, .map none]) [.slice none 0 0, .map none] := ⟨by kernel_rfl, rfl⟩
instance : FO Tryz.prog 218 0 216 0 := ⟨by kernel_rfl⟩
instance : FO Tryz.prog 218 1 177 1 := ⟨by kernel_rfl⟩
instance : PL Tryz.prog 218 [(0, 1), (1, 1)] := ⟨by kernel_rfl⟩
instance : AG Tryz.prog 249 := ⟨by kernel_rfl⟩
instance : SZ Tryz.prog 249 2 16 := ⟨by kernel_rfl⟩
instance : ZR Tryz.prog 249 (.agg #[.int .i64 0, .int .i64 0]) [.int .i64 0, .int .i64 0] := ⟨by kernel_rfl, rfl⟩
instance : FO Tryz.prog 249 0 3 0 := ⟨by kernel_rfl⟩
instance : FO Tryz.prog 249 1 3 1 := ⟨by kernel_rfl⟩
instance : PL Tryz.prog 249 [(0, 1), (1, 1)] := ⟨by kernel_rfl⟩
instance : ZR Tryz.prog 290 (.agg #[.slice none 0 0, .slice none 0 0, .slice none 0 0, .int .i64 0, .int .i64 0, .int .i64 0, .int .i64 0, .int .i64 0, .int .i64 0, .slice none 0 0, .slice none 0 0, .slice none 0 0, .slice none 0 0, .int .i64 0]) [.slice none 0 0, .slice none 0 0, .slice none 0 0, .int .i64 0, .int .i64 0, .int .i64 0, .int .i64 0, .int .i64 0, .int .i64 0, .slice none 0 0, .slice none 0 0, .slice none 0 0, .slice none 0 0, .int .i64 0] := ⟨by kernel_rfl, rfl⟩
instance : FO Tryz.prog 290 0 26 0 := ⟨by kernel_rfl⟩
instance : FO Tryz.prog 290 1 58 9 := ⟨by kernel_rfl⟩
instance : FO Tryz.prog 290 2 31 10 := ⟨by kernel_rfl⟩
instance : FO Tryz.prog 290 3 78 11 := ⟨by kernel_rfl⟩
instance : FO Tryz.prog 290 4 81 12 := ⟨by kernel_rfl⟩
instance : FO Tryz.prog 290 5 3 13 := ⟨by kernel_rfl⟩
instance : PL Tryz.prog 290 [(0, 9), (9, 1), (10, 1), (11, 1), (12, 1), (13, 1)] := ⟨by kernel_rfl⟩
end Go.Proofs.YtflgnpidelkkpaaGreat
namespace Go.Proofs.YtflgnpidelkkpaaGreat
set_option maxRecDepth 8000
set_option maxHeartbeats 1000000
set_option linter.unusedVariables false
set_option linter.unusedSimpArgs false
abbrev ArrL (xs : List HeldV) (A : Option Addr) (c : Nat) (h : Hp) : Prop := Arr 144 3 xs.length (xs.flatMap HeldV.enc) A c h
def LockC (b : Nat) (l : List HeldV) (hs : List Hp) : Prop := ∃ A c h, hs = [one b (cells [.slice A l.length c] 176), h] ∧ ArrL l A c h
theorem heldsOne (xs : List HeldV) : (xs.flatMap HeldV.enc).all (·.oneCell') = true := by
  rw [List.all_flatMap, List.all_eq_true]; intro x _; rfl
def idxV (p : HeldV → Bool) (xs : List HeldV) : Int := match xs.findIdx? p with | some i => (i : Nat) | none => -1
theorem Arr.rowH {e : TypeId} {sz m c : Nat} {vs : List Value} {A : Option Addr} {h G : Hp} (a : Arr e sz m vs A c h) (g : h.le G) : RowAt G [] A vs := fun j v ej => by
  obtain ⟨b, sp, h1, h2, h3⟩ := a.row j v ej
  exact ⟨b, 0, h1, CellAt.mk (At.ofF (g _ _ h2)) (by rw [Nat.zero_add]; exact h3)⟩
theorem one_in {b : Nat} {o : Obj} {G : Hp} (h : (one b o).le G) : G.get b = some o := h b o (one_get _ _)
attribute [local irreducible] W X WL WA WB WG WO Rn Own one splice Arr Spec WQ WH Qn
theorem takeF_any (x : HeldV) (cb : Nat) (s : Int) (F : Hp) (h : F.get cb = some (cells [.int .i64 s] 3)) : Spec Tryz.prog 213 [.agg x.enc.toArray, .pointer (some ⟨cb, 0, none⟩)] F [] fun v hs => v = .bool (x.sem == s) ∧ hs = [] := by
  refine Spec.enter Tryz.func213 rfl Tryz.ntmps213 rfl fun B => ?_
  repeat' (first | ((apply WL.rd; (exact rfl); (apply Rn.load; (exact rfl); (exact CellAt.mk (At.ofF h) rfl)))) | (first | refine soA ?_ | refine sgA ?_ | refine sxA ?_ | refine sbA ?_ | refine fun (Q : Post) hQ => ?_ | refine fun (nb : Nat) => (?_ : WL _ _ _ _ _ _ _ _ _) | (refine WL.guard rfl rfl rfl (fun h => ?_) (fun h => ?_) <;> (try dsimp only at h))))
  ((refine seE ?_); refine ⟨[], Keep.nil, ?_⟩)
  exact ⟨rfl, rfl⟩
theorem freeF_any (x : HeldV) (cb : Nat) (s : Int) (F : Hp) (h : F.get cb = some (cells [.int .i64 s] 3)) : Spec Tryz.prog 284 [.agg x.enc.toArray, .pointer (some ⟨cb, 0, none⟩)] F [] fun v hs => v = .bool (x.task == s) ∧ hs = [] := by
  refine Spec.enter Tryz.func284 rfl Tryz.ntmps284 rfl fun B => ?_
  repeat' (first | ((apply WL.rd; (exact rfl); (apply Rn.load; (exact rfl); (exact CellAt.mk (At.ofF h) rfl)))) | (first | refine soA ?_ | refine sgA ?_ | refine sxA ?_ | refine sbA ?_ | refine fun (Q : Post) hQ => ?_ | refine fun (nb : Nat) => (?_ : WL _ _ _ _ _ _ _ _ _) | (refine WL.guard rfl rfl rfl (fun h => ?_) (fun h => ?_) <;> (try dsimp only at h))))
  ((refine seE ?_); refine ⟨[], Keep.nil, ?_⟩)
  exact ⟨rfl, rfl⟩
theorem overF_any (x : HeldV) (cb : Nat) (s : Int) (F : Hp) (h : F.get cb = some (cells [.int .i64 s] 3)) : Spec Tryz.prog 268 [.agg x.enc.toArray, .pointer (some ⟨cb, 0, none⟩)] F [] fun v hs => v = .bool ((x.task == s) && decide (x.left ≤ 0)) ∧ hs = [] := by
  refine Spec.enter Tryz.func268 rfl Tryz.ntmps268 rfl fun B => ?_
  by_cases c1 : x.task = s
  · skip
    repeat' (first | ((apply WL.rd; (exact rfl); (apply Rn.load; (exact rfl); (exact CellAt.mk (At.ofF h) rfl)))) | ((apply WL.rd; (exact rfl); (exact Rn.cmp (b := true) rfl rfl (congrArg some (beq_iff_eq.2 c1))))) | (first | refine soA ?_ | refine sgA ?_ | refine sxA ?_ | refine sbA ?_ | refine fun (Q : Post) hQ => ?_ | refine fun (nb : Nat) => (?_ : WL _ _ _ _ _ _ _ _ _) | (refine WL.guard rfl rfl rfl (fun h => ?_) (fun h => ?_) <;> (try dsimp only at h))))
    ((refine seE ?_); refine ⟨[], Keep.nil, ?_⟩)
    exact ⟨by rw [beq_iff_eq.2 c1]; rfl, rfl⟩
  · skip
    repeat' (first | ((apply WL.rd; (exact rfl); (apply Rn.load; (exact rfl); (exact CellAt.mk (At.ofF h) rfl)))) | ((apply WL.rd; (exact rfl); (exact Rn.cmp (b := false) rfl rfl (congrArg some (beq_eq_false_iff_ne.2 c1))))) | (first | refine soA ?_ | refine sgA ?_ | refine sxA ?_ | refine sbA ?_ | refine fun (Q : Post) hQ => ?_ | refine fun (nb : Nat) => (?_ : WL _ _ _ _ _ _ _ _ _) | (refine WL.guard rfl rfl rfl (fun h => ?_) (fun h => ?_) <;> (try dsimp only at h))))
    ((refine seE ?_); refine ⟨[], Keep.nil, ?_⟩)
    exact ⟨by rw [beq_eq_false_iff_ne.2 c1]; rfl, rfl⟩
set_option maxHeartbeats 1000000 in
theorem index_any {f : FuncId} {fn : Func} {cd : Code} (hf : Tryz.prog.funcs[f]? = some fn) (hb : fn.body = some cd) (hnm : (fn.name == "runtime.NumGoroutine") = false) (cap : List Value) (p : HeldV → Bool) (A0 : Option Addr) (c0 : Nat) (xs : List HeldV) (F : Hp) (h0 : RowAt F [] A0 (xs.flatMap HeldV.enc)) (hfit : xs.length * 24 ≤ 140737488355328)
    (hp : ∀ G, F.le G → ∀ x : HeldV, Spec Tryz.prog f (.agg x.enc.toArray :: cap) G [] fun v hs => v = .bool (p x) ∧ hs = []) :
    Spec Tryz.prog 252 [.slice A0 xs.length c0, .func (.func f) #[] cap.toArray] F [] fun v hs => v = .int .i64 (idxV p xs) ∧ hs = [] := by
  refine Spec.enter Tryz.func252 rfl Tryz.ntmps252 rfl fun B => ?_
  repeat' (first | refine soA ?_ | refine sgA ?_ | refine sxA ?_ | refine sbA ?_ | refine fun (Q : Post) hQ => ?_ | refine fun (nb : Nat) => (?_ : WL _ _ _ _ _ _ _ _ _) | (refine WL.guard rfl rfl rfl (fun h => ?_) (fun h => ?_) <;> (try dsimp only at h)))
  refine W.loopK (σ := Nat) ⟨fun k => k ≤ xs.length ∧ ∀ (j : Nat) x, j < k → xs[j]? = some x → p x = false, fun k => [(8, some (.int .i64 (k : Nat))), (7, some (.int .i64 (xs.length : Nat))), (0, some (.slice A0 xs.length c0)), (1, some (.func (.func f) #[] cap.toArray))], fun _ => [], fun k => xs.length - k⟩ 0 ⟨Nat.zero_le _, fun j x hj => absurd hj (Nat.not_lt_zero _)⟩ ⟨rfl, rfl, rfl, rfl, trivial⟩ Keep.nil fun k hk Q hL => ?_
  obtain ⟨hk, hno⟩ := hk
  dsimp only at hk hno ⊢
  repeat' (first | refine soA ?_ | refine sgA ?_ | refine sxA ?_ | refine sbA ?_ | refine fun (Q : Post) hQ => ?_ | refine fun (nb : Nat) => (?_ : WL _ _ _ _ _ _ _ _ _) | (refine WL.guard rfl rfl rfl (fun h => ?_) (fun h => ?_) <;> (try dsimp only at h)))
  refine W.cond rfl (fun h => ?_) (fun h => ?_) <;> (try simp only [beq_iff_eq, bne_iff_ne, decide_eq_true_eq, decide_eq_false_iff_not, beq_eq_false_iff_ne, bne_eq_false_iff_eq, Bool.not_true, Bool.not_false, ne_eq, Int.not_lt, Int.not_le, Bool.not_eq_true', Bool.not_eq_false', Bool.not_eq_eq_eq_not] at h)
  · have hlt : k < xs.length := by omega
    have hxk : xs[k]? = some xs[k] := List.getElem?_eq_getElem hlt
    generalize xs[k] = x at hxk
    obtain ⟨g, o, rfl, g1⟩ := h0.elem 3 (fun _ => rfl) (by omega) k x hxk
    cases hpx : p x with
    | true =>
      repeat' (first | ((apply WL.rd; (exact rfl); (exact Rn.indexAddr k rfl rfl (by first | rfl | omega) (by omega)))) | ((apply WL.rd; (exact rfl); (apply Rn.loadS; (exact rfl); (exact (CellsAt.weak g1 (by simp))); (exact rfl)))) | ((refine WL.ex rfl (WO.callV (first := []) (captured := cap) rfl hf hb hnm rfl Takes.nil (fun G hG hh => hp G hG x) ?_); rintro v own' ⟨hv, rfl⟩; rw [hpx] at hv; subst hv)) | (first | refine soA ?_ | refine sgA ?_ | refine sxA ?_ | refine sbA ?_ | refine fun (Q : Post) hQ => ?_ | refine fun (nb : Nat) => (?_ : WL _ _ _ _ _ _ _ _ _) | (refine WL.guard rfl rfl rfl (fun h => ?_) (fun h => ?_) <;> (try dsimp only at h))))
      ((refine seE ?_); refine ⟨[], Keep.nil, ?_⟩)
      refine ⟨?_, rfl⟩
      have : xs.findIdx? p = some k := by
        rw [List.findIdx?_eq_some_iff_getElem]
        refine ⟨hlt, ?_, fun j hj => ?_⟩
        · have := (List.getElem?_eq_some_iff.1 hxk).2; rw [this]; exact hpx
        · have := hno j xs[j] hj (List.getElem?_eq_getElem (by omega)); simp [this]
      unfold idxV; rw [this]
    | false =>
      repeat' (first | ((apply WL.rd; (exact rfl); (exact Rn.indexAddr k rfl rfl (by first | rfl | omega) (by omega)))) | ((apply WL.rd; (exact rfl); (apply Rn.loadS; (exact rfl); (exact (CellsAt.weak g1 (by simp))); (exact rfl)))) | ((refine WL.ex rfl (WO.callV (first := []) (captured := cap) rfl hf hb hnm rfl Takes.nil (fun G hG hh => hp G hG x) ?_); rintro v own' ⟨hv, rfl⟩; rw [hpx] at hv; subst hv)) | (first | refine soA ?_ | refine sgA ?_ | refine sxA ?_ | refine sbA ?_ | refine fun (Q : Post) hQ => ?_ | refine fun (nb : Nat) => (?_ : WL _ _ _ _ _ _ _ _ _) | (refine WL.guard rfl rfl rfl (fun h => ?_) (fun h => ?_) <;> (try dsimp only at h))))
      refine hL.nx (k + 1) _ _ ⟨by omega, fun j y hj hy => ?_⟩ (by dsimp only; omega) ⟨rfl, rfl, rfl, rfl, trivial⟩ Keep.nil
      by_cases e : j = k
      · subst e; rw [hxk] at hy; cases hy; exact hpx
      · exact hno j y (by omega) hy
  · have hkk : k = xs.length := by omega
    subst hkk
    repeat' (first | refine soA ?_ | refine sgA ?_ | refine sxA ?_ | refine sbA ?_ | refine fun (Q : Post) hQ => ?_ | refine fun (nb : Nat) => (?_ : WL _ _ _ _ _ _ _ _ _) | (refine WL.guard rfl rfl rfl (fun h => ?_) (fun h => ?_) <;> (try dsimp only at h)))
    ((refine seE ?_); refine ⟨[], Keep.nil, ?_⟩)
    refine ⟨?_, rfl⟩
    have : xs.findIdx? p = none := by
      rw [List.findIdx?_eq_none_iff]; intro x hx
      obtain ⟨j, hj, e⟩ := List.getElem_of_mem hx
      exact hno j x hj (by rw [List.getElem?_eq_getElem hj, e])
    unfold idxV; rw [this]
end Go.Proofs.YtflgnpidelkkpaaGreat
