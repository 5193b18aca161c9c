/- Facts on the types and functions of the program. Conditions: none. -/
import Derived.Test.YtihmbmoeedojoaaGreatProg
import Derived.Test.YtihmbmoeedojoaaGreatSlC
namespace Go.Proofs.YtihmbmoeedojoaaGreat
open Go Go.Sl
set_option linter.unusedVariables false
set_option maxRecDepth 100000
instance : TySz Tryz.prog 1 1 := ⟨by kernel_rfl⟩
instance : TyB Tryz.prog 1 8 := ⟨by kernel_rfl⟩
instance : Agg Tryz.prog 1 false := ⟨by kernel_rfl⟩
instance : TyZ Tryz.prog 1 (.nilFunc) := ⟨by kernel_rfl⟩
instance : TySz Tryz.prog 2 1 := ⟨by kernel_rfl⟩
instance : TyB Tryz.prog 2 8 := ⟨by kernel_rfl⟩
instance : Agg Tryz.prog 2 false := ⟨by kernel_rfl⟩
instance : TyU Tryz.prog 2 (.int .i64) := ⟨Tryz.underlying2⟩
instance : TyZ Tryz.prog 2 (.int .i64 0) := ⟨by kernel_rfl⟩
instance : TySz Tryz.prog 3 1 := ⟨by kernel_rfl⟩
instance : TyB Tryz.prog 3 8 := ⟨by kernel_rfl⟩
instance : Agg Tryz.prog 3 false := ⟨by kernel_rfl⟩
instance : TyU Tryz.prog 3 (.int .i64) := ⟨Tryz.underlying3⟩
instance : TyZ Tryz.prog 3 (.int .i64 0) := ⟨by kernel_rfl⟩
instance : TySz Tryz.prog 4 1 := ⟨by kernel_rfl⟩
instance : TyB Tryz.prog 4 1 := ⟨by kernel_rfl⟩
instance : Agg Tryz.prog 4 false := ⟨by kernel_rfl⟩
instance : TyU Tryz.prog 4 .bool := ⟨Tryz.underlying4⟩
instance : TyZ Tryz.prog 4 (.bool false) := ⟨by kernel_rfl⟩
instance : TySz Tryz.prog 5 1 := ⟨by kernel_rfl⟩
instance : TyB Tryz.prog 5 1 := ⟨by kernel_rfl⟩
instance : Agg Tryz.prog 5 false := ⟨by kernel_rfl⟩
instance : TyU Tryz.prog 5 (.int .u8) := ⟨Tryz.underlying5⟩
instance : TyZ Tryz.prog 5 (.int .u8 0) := ⟨by kernel_rfl⟩
instance : TySz Tryz.prog 9 1 := ⟨by kernel_rfl⟩
instance : TyB Tryz.prog 9 16 := ⟨by kernel_rfl⟩
instance : Agg Tryz.prog 9 false := ⟨by kernel_rfl⟩
instance : TyU Tryz.prog 9 .string := ⟨Tryz.underlying9⟩
instance : TySz Tryz.prog 12 1 := ⟨by kernel_rfl⟩
instance : TyB Tryz.prog 12 8 := ⟨by kernel_rfl⟩
instance : Agg Tryz.prog 12 false := ⟨by kernel_rfl⟩
instance : TyU Tryz.prog 12 (.int .u64) := ⟨Tryz.underlying12⟩
instance : TyZ Tryz.prog 12 (.int .u64 0) := ⟨by kernel_rfl⟩
instance : TySz Tryz.prog 13 2 := ⟨by kernel_rfl⟩
instance : TyB Tryz.prog 13 24 := ⟨by kernel_rfl⟩
instance : Agg Tryz.prog 13 true := ⟨by kernel_rfl⟩
instance : NotI Tryz.prog 13 := ⟨by kernel_rfl⟩
instance : TyF Tryz.prog 13 0 0 9 := ⟨⟨_, _, Tryz.underlying13, rfl, rfl, rfl⟩⟩
instance : TyF Tryz.prog 13 1 1 12 := ⟨⟨_, _, Tryz.underlying13, rfl, rfl, rfl⟩⟩
instance : TyPl Tryz.prog 13 [(0, 1), (1, 1)] := ⟨⟨_, Tryz.underlying13, by kernel_rfl⟩⟩
instance : TySz Tryz.prog 20 1 := ⟨by kernel_rfl⟩
instance : TyB Tryz.prog 20 16 := ⟨by kernel_rfl⟩
instance : Agg Tryz.prog 20 false := ⟨by kernel_rfl⟩
instance : TyZ Tryz.prog 20 (.nilIface) := ⟨by kernel_rfl⟩
instance : TySz Tryz.prog 21 1 := ⟨by kernel_rfl⟩
instance : TyB Tryz.prog 21 4 := ⟨by kernel_rfl⟩
instance : Agg Tryz.prog 21 false := ⟨by kernel_rfl⟩
instance : TyU Tryz.prog 21 (.int .i32) := ⟨Tryz.underlying21⟩
instance : TyZ Tryz.prog 21 (.int .i32 0) := ⟨by kernel_rfl⟩
instance : TySz Tryz.prog 22 1 := ⟨by kernel_rfl⟩
instance : TyB Tryz.prog 22 24 := ⟨by kernel_rfl⟩
instance : Agg Tryz.prog 22 false := ⟨by kernel_rfl⟩
instance : TyU Tryz.prog 22 (.slice 41) := ⟨Tryz.underlying22⟩
instance : TyZ Tryz.prog 22 (.slice none 0 0) := ⟨by kernel_rfl⟩
instance : TySz Tryz.prog 23 1 := ⟨by kernel_rfl⟩
instance : TyB Tryz.prog 23 8 := ⟨by kernel_rfl⟩
instance : Agg Tryz.prog 23 false := ⟨by kernel_rfl⟩
instance : TyZ Tryz.prog 23 (.nilFunc) := ⟨by kernel_rfl⟩
instance : TySz Tryz.prog 24 1 := ⟨by kernel_rfl⟩
instance : TyB Tryz.prog 24 24 := ⟨by kernel_rfl⟩
instance : Agg Tryz.prog 24 false := ⟨by kernel_rfl⟩
instance : TyU Tryz.prog 24 (.slice 21) := ⟨Tryz.underlying24⟩
instance : TyZ Tryz.prog 24 (.slice none 0 0) := ⟨by kernel_rfl⟩
instance : TySz Tryz.prog 25 1 := ⟨by kernel_rfl⟩
instance : TyB Tryz.prog 25 24 := ⟨by kernel_rfl⟩
instance : Agg Tryz.prog 25 false := ⟨by kernel_rfl⟩
instance : TyU Tryz.prog 25 (.slice 5) := ⟨Tryz.underlying25⟩
instance : TyZ Tryz.prog 25 (.slice none 0 0) := ⟨by kernel_rfl⟩
instance : TySz Tryz.prog 26 1 := ⟨by kernel_rfl⟩
instance : TyB Tryz.prog 26 8 := ⟨by kernel_rfl⟩
instance : Agg Tryz.prog 26 false := ⟨by kernel_rfl⟩
instance : TyU Tryz.prog 26 (.int .u64) := ⟨Tryz.underlying26⟩
instance : TyZ Tryz.prog 26 (.int .u64 0) := ⟨by kernel_rfl⟩
instance : TySz Tryz.prog 27 8 := ⟨by kernel_rfl⟩
instance : TyB Tryz.prog 27 96 := ⟨by kernel_rfl⟩
instance : Agg Tryz.prog 27 true := ⟨by kernel_rfl⟩
instance : TyZ Tryz.prog 27 (.agg #[.int .i64 0, .bool false, .int .i64 0, .int .i64 0, .int .i64 0, .slice none 0 0, .slice none 0 0, .int .u64 0]) := ⟨by kernel_rfl⟩
instance : NotI Tryz.prog 27 := ⟨by kernel_rfl⟩
instance : TyF Tryz.prog 27 0 0 3 := ⟨⟨_, _, Tryz.underlying27, rfl, rfl, rfl⟩⟩
instance : TyF Tryz.prog 27 1 1 4 := ⟨⟨_, _, Tryz.underlying27, rfl, rfl, rfl⟩⟩
instance : TyF Tryz.prog 27 2 2 3 := ⟨⟨_, _, Tryz.underlying27, rfl, rfl, rfl⟩⟩
instance : TyF Tryz.prog 27 3 3 3 := ⟨⟨_, _, Tryz.underlying27, rfl, rfl, rfl⟩⟩
instance : TyF Tryz.prog 27 4 4 3 := ⟨⟨_, _, Tryz.underlying27, rfl, rfl, rfl⟩⟩
instance : TyF Tryz.prog 27 5 5 24 := ⟨⟨_, _, Tryz.underlying27, rfl, rfl, rfl⟩⟩
instance : TyF Tryz.prog 27 6 6 25 := ⟨⟨_, _, Tryz.underlying27, rfl, rfl, rfl⟩⟩
instance : TyF Tryz.prog 27 7 7 26 := ⟨⟨_, _, Tryz.underlying27, rfl, rfl, rfl⟩⟩
instance : TyPl Tryz.prog 27 [(0, 1), (1, 1), (2, 1), (3, 1), (4, 1), (5, 1), (6, 1), (7, 1)] := ⟨⟨_, Tryz.underlying27, by kernel_rfl⟩⟩
instance : TySz Tryz.prog 28 8 := ⟨by kernel_rfl⟩
instance : TyB Tryz.prog 28 96 := ⟨by kernel_rfl⟩
instance : Agg Tryz.prog 28 true := ⟨by kernel_rfl⟩
instance : TyZ Tryz.prog 28 (.agg #[.int .i64 0, .bool false, .int .i64 0, .int .i64 0, .int .i64 0, .slice none 0 0, .slice none 0 0, .int .u64 0]) := ⟨by kernel_rfl⟩
instance : NotI Tryz.prog 28 := ⟨by kernel_rfl⟩
instance : TyF Tryz.prog 28 0 0 3 := ⟨⟨_, _, Tryz.underlying28, rfl, rfl, rfl⟩⟩
instance : TyF Tryz.prog 28 1 1 4 := ⟨⟨_, _, Tryz.underlying28, rfl, rfl, rfl⟩⟩
instance : TyF Tryz.prog 28 2 2 3 := ⟨⟨_, _, Tryz.underlying28, rfl, rfl, rfl⟩⟩
instance : TyF Tryz.prog 28 3 3 3 := ⟨⟨_, _, Tryz.underlying28, rfl, rfl, rfl⟩⟩
instance : TyF Tryz.prog 28 4 4 3 := ⟨⟨_, _, Tryz.underlying28, rfl, rfl, rfl⟩⟩
instance : TyF Tryz.prog 28 5 5 24 := ⟨⟨_, _, Tryz.underlying28, rfl, rfl, rfl⟩⟩
instance : TyF Tryz.prog 28 6 6 25 := ⟨⟨_, _, Tryz.underlying28, rfl, rfl, rfl⟩⟩
instance : TyF Tryz.prog 28 7 7 26 := ⟨⟨_, _, Tryz.underlying28, rfl, rfl, rfl⟩⟩
instance : TyPl Tryz.prog 28 [(0, 1), (1, 1), (2, 1), (3, 1), (4, 1), (5, 1), (6, 1), (7, 1)] := ⟨⟨_, Tryz.underlying28, by kernel_rfl⟩⟩
instance : TySz Tryz.prog 29 1 := ⟨by kernel_rfl⟩
instance : TyB Tryz.prog 29 8 := ⟨by kernel_rfl⟩
instance : Agg Tryz.prog 29 false := ⟨by kernel_rfl⟩
instance : TyZ Tryz.prog 29 (.nilFunc) := ⟨by kernel_rfl⟩
instance : TySz Tryz.prog 30 1 := ⟨by kernel_rfl⟩
instance : TyB Tryz.prog 30 8 := ⟨by kernel_rfl⟩
instance : Agg Tryz.prog 30 false := ⟨by kernel_rfl⟩
instance : TyU Tryz.prog 30 (.pointer 94) := ⟨Tryz.underlying30⟩
instance : TyZ Tryz.prog 30 (.pointer none) := ⟨by kernel_rfl⟩
instance : TySz Tryz.prog 31 1 := ⟨by kernel_rfl⟩
instance : TyB Tryz.prog 31 8 := ⟨by kernel_rfl⟩
instance : Agg Tryz.prog 31 false := ⟨by kernel_rfl⟩
instance : TyZ Tryz.prog 31 (.nilFunc) := ⟨by kernel_rfl⟩
instance : TySz Tryz.prog 32 1 := ⟨by kernel_rfl⟩
instance : TyB Tryz.prog 32 8 := ⟨by kernel_rfl⟩
instance : Agg Tryz.prog 32 false := ⟨by kernel_rfl⟩
instance : TyU Tryz.prog 32 (.pointer 59) := ⟨Tryz.underlying32⟩
instance : TyZ Tryz.prog 32 (.pointer none) := ⟨by kernel_rfl⟩
instance : TySz Tryz.prog 33 1 := ⟨by kernel_rfl⟩
instance : TyB Tryz.prog 33 8 := ⟨by kernel_rfl⟩
instance : Agg Tryz.prog 33 false := ⟨by kernel_rfl⟩
instance : TyZ Tryz.prog 33 (.nilFunc) := ⟨by kernel_rfl⟩
instance : TySz Tryz.prog 34 1 := ⟨by kernel_rfl⟩
instance : TyB Tryz.prog 34 8 := ⟨by kernel_rfl⟩
instance : Agg Tryz.prog 34 false := ⟨by kernel_rfl⟩
instance : TyU Tryz.prog 34 (.pointer 106) := ⟨Tryz.underlying34⟩
instance : TyZ Tryz.prog 34 (.pointer none) := ⟨by kernel_rfl⟩
instance : TySz Tryz.prog 35 1 := ⟨by kernel_rfl⟩
instance : TyB Tryz.prog 35 8 := ⟨by kernel_rfl⟩
instance : Agg Tryz.prog 35 false := ⟨by kernel_rfl⟩
instance : TyZ Tryz.prog 35 (.nilFunc) := ⟨by kernel_rfl⟩
instance : TySz Tryz.prog 36 1 := ⟨by kernel_rfl⟩
instance : TyB Tryz.prog 36 8 := ⟨by kernel_rfl⟩
instance : Agg Tryz.prog 36 false := ⟨by kernel_rfl⟩
instance : TyU Tryz.prog 36 (.pointer 109) := ⟨Tryz.underlying36⟩
instance : TyZ Tryz.prog 36 (.pointer none) := ⟨by kernel_rfl⟩
instance : TySz Tryz.prog 37 1 := ⟨by kernel_rfl⟩
instance : TyB Tryz.prog 37 8 := ⟨by kernel_rfl⟩
instance : Agg Tryz.prog 37 false := ⟨by kernel_rfl⟩
instance : TyZ Tryz.prog 37 (.nilFunc) := ⟨by kernel_rfl⟩
instance : TySz Tryz.prog 39 1 := ⟨by kernel_rfl⟩
instance : TyB Tryz.prog 39 8 := ⟨by kernel_rfl⟩
instance : Agg Tryz.prog 39 false := ⟨by kernel_rfl⟩
instance : TyZ Tryz.prog 39 (.nilFunc) := ⟨by kernel_rfl⟩
instance : TySz Tryz.prog 40 4 := ⟨by kernel_rfl⟩
instance : TyB Tryz.prog 40 4 := ⟨by kernel_rfl⟩
instance : Agg Tryz.prog 40 true := ⟨by kernel_rfl⟩
instance : TyZ Tryz.prog 40 (.agg #[.int .u8 0, .int .u8 0, .int .u8 0, .int .u8 0]) := ⟨by kernel_rfl⟩
instance : NotI Tryz.prog 40 := ⟨by kernel_rfl⟩
instance : TyF Tryz.prog 40 0 0 5 := ⟨⟨_, _, Tryz.underlying40, rfl, rfl, rfl⟩⟩
instance : TyF Tryz.prog 40 1 1 5 := ⟨⟨_, _, Tryz.underlying40, rfl, rfl, rfl⟩⟩
instance : TyF Tryz.prog 40 2 2 5 := ⟨⟨_, _, Tryz.underlying40, rfl, rfl, rfl⟩⟩
instance : TyF Tryz.prog 40 3 3 5 := ⟨⟨_, _, Tryz.underlying40, rfl, rfl, rfl⟩⟩
instance : TyPl Tryz.prog 40 [(0, 1), (1, 1), (2, 1), (3, 1)] := ⟨⟨_, Tryz.underlying40, by kernel_rfl⟩⟩
instance : TySz Tryz.prog 41 4 := ⟨by kernel_rfl⟩
instance : TyB Tryz.prog 41 4 := ⟨by kernel_rfl⟩
instance : Agg Tryz.prog 41 true := ⟨by kernel_rfl⟩
instance : TyZ Tryz.prog 41 (.agg #[.int .u8 0, .int .u8 0, .int .u8 0, .int .u8 0]) := ⟨by kernel_rfl⟩
instance : NotI Tryz.prog 41 := ⟨by kernel_rfl⟩
instance : TyF Tryz.prog 41 0 0 5 := ⟨⟨_, _, Tryz.underlying41, rfl, rfl, rfl⟩⟩
instance : TyF Tryz.prog 41 1 1 5 := ⟨⟨_, _, Tryz.underlying41, rfl, rfl, rfl⟩⟩
instance : TyF Tryz.prog 41 2 2 5 := ⟨⟨_, _, Tryz.underlying41, rfl, rfl, rfl⟩⟩
instance : TyF Tryz.prog 41 3 3 5 := ⟨⟨_, _, Tryz.underlying41, rfl, rfl, rfl⟩⟩
instance : TyPl Tryz.prog 41 [(0, 1), (1, 1), (2, 1), (3, 1)] := ⟨⟨_, Tryz.underlying41, by kernel_rfl⟩⟩
instance : TySz Tryz.prog 42 4 := ⟨by kernel_rfl⟩
instance : TyB Tryz.prog 42 16 := ⟨by kernel_rfl⟩
instance : Agg Tryz.prog 42 true := ⟨by kernel_rfl⟩
instance : TyU Tryz.prog 42 (.array 4 21) := ⟨Tryz.underlying42⟩
instance : TyZ Tryz.prog 42 (.agg #[.int .i32 0, .int .i32 0, .int .i32 0, .int .i32 0]) := ⟨by kernel_rfl⟩
instance : TySz Tryz.prog 43 1 := ⟨by kernel_rfl⟩
instance : TyB Tryz.prog 43 4 := ⟨by kernel_rfl⟩
instance : Agg Tryz.prog 43 false := ⟨by kernel_rfl⟩
instance : TyU Tryz.prog 43 (.int .u32) := ⟨Tryz.underlying43⟩
instance : TyZ Tryz.prog 43 (.int .u32 0) := ⟨by kernel_rfl⟩
instance : TySz Tryz.prog 44 12 := ⟨by kernel_rfl⟩
instance : TyB Tryz.prog 44 96 := ⟨by kernel_rfl⟩
instance : Agg Tryz.prog 44 true := ⟨by kernel_rfl⟩
instance : TyZ Tryz.prog 44 (.agg #[.int .i32 0, .int .i64 0, .int .i64 0, .slice none 0 0, .int .i32 0, .int .i32 0, .int .i32 0, .int .i32 0, .int .i64 0, .int .i64 0, .int .u32 0, .int .i64 0]) := ⟨by kernel_rfl⟩
instance : NotI Tryz.prog 44 := ⟨by kernel_rfl⟩
instance : TyF Tryz.prog 44 0 0 21 := ⟨⟨_, _, Tryz.underlying44, rfl, rfl, rfl⟩⟩
instance : TyF Tryz.prog 44 1 1 3 := ⟨⟨_, _, Tryz.underlying44, rfl, rfl, rfl⟩⟩
instance : TyF Tryz.prog 44 2 2 3 := ⟨⟨_, _, Tryz.underlying44, rfl, rfl, rfl⟩⟩
instance : TyF Tryz.prog 44 3 3 24 := ⟨⟨_, _, Tryz.underlying44, rfl, rfl, rfl⟩⟩
instance : TyF Tryz.prog 44 4 4 42 := ⟨⟨_, _, Tryz.underlying44, rfl, rfl, rfl⟩⟩
instance : TyF Tryz.prog 44 5 8 3 := ⟨⟨_, _, Tryz.underlying44, rfl, rfl, rfl⟩⟩
instance : TyF Tryz.prog 44 6 9 3 := ⟨⟨_, _, Tryz.underlying44, rfl, rfl, rfl⟩⟩
instance : TyF Tryz.prog 44 7 10 43 := ⟨⟨_, _, Tryz.underlying44, rfl, rfl, rfl⟩⟩
instance : TyF Tryz.prog 44 8 11 3 := ⟨⟨_, _, Tryz.underlying44, rfl, rfl, rfl⟩⟩
instance : TyPl Tryz.prog 44 [(0, 1), (1, 1), (2, 1), (3, 1), (4, 4), (8, 1), (9, 1), (10, 1), (11, 1)] := ⟨⟨_, Tryz.underlying44, by kernel_rfl⟩⟩
instance : TySz Tryz.prog 45 12 := ⟨by kernel_rfl⟩
instance : TyB Tryz.prog 45 96 := ⟨by kernel_rfl⟩
instance : Agg Tryz.prog 45 true := ⟨by kernel_rfl⟩
instance : TyZ Tryz.prog 45 (.agg #[.int .i32 0, .int .i64 0, .int .i64 0, .slice none 0 0, .int .i32 0, .int .i32 0, .int .i32 0, .int .i32 0, .int .i64 0, .int .i64 0, .int .u32 0, .int .i64 0]) := ⟨by kernel_rfl⟩
instance : NotI Tryz.prog 45 := ⟨by kernel_rfl⟩
instance : TyF Tryz.prog 45 0 0 21 := ⟨⟨_, _, Tryz.underlying45, rfl, rfl, rfl⟩⟩
instance : TyF Tryz.prog 45 1 1 3 := ⟨⟨_, _, Tryz.underlying45, rfl, rfl, rfl⟩⟩
instance : TyF Tryz.prog 45 2 2 3 := ⟨⟨_, _, Tryz.underlying45, rfl, rfl, rfl⟩⟩
instance : TyF Tryz.prog 45 3 3 24 := ⟨⟨_, _, Tryz.underlying45, rfl, rfl, rfl⟩⟩
instance : TyF Tryz.prog 45 4 4 42 := ⟨⟨_, _, Tryz.underlying45, rfl, rfl, rfl⟩⟩
instance : TyF Tryz.prog 45 5 8 3 := ⟨⟨_, _, Tryz.underlying45, rfl, rfl, rfl⟩⟩
instance : TyF Tryz.prog 45 6 9 3 := ⟨⟨_, _, Tryz.underlying45, rfl, rfl, rfl⟩⟩
instance : TyF Tryz.prog 45 7 10 43 := ⟨⟨_, _, Tryz.underlying45, rfl, rfl, rfl⟩⟩
instance : TyF Tryz.prog 45 8 11 3 := ⟨⟨_, _, Tryz.underlying45, rfl, rfl, rfl⟩⟩
instance : TyPl Tryz.prog 45 [(0, 1), (1, 1), (2, 1), (3, 1), (4, 4), (8, 1), (9, 1), (10, 1), (11, 1)] := ⟨⟨_, Tryz.underlying45, by kernel_rfl⟩⟩
instance : TySz Tryz.prog 46 1 := ⟨by kernel_rfl⟩
instance : TyB Tryz.prog 46 8 := ⟨by kernel_rfl⟩
instance : Agg Tryz.prog 46 false := ⟨by kernel_rfl⟩
instance : TyZ Tryz.prog 46 (.nilFunc) := ⟨by kernel_rfl⟩
instance : TySz Tryz.prog 47 1 := ⟨by kernel_rfl⟩
instance : TyB Tryz.prog 47 8 := ⟨by kernel_rfl⟩
instance : Agg Tryz.prog 47 false := ⟨by kernel_rfl⟩
instance : TyZ Tryz.prog 47 (.nilFunc) := ⟨by kernel_rfl⟩
instance : TySz Tryz.prog 48 1 := ⟨by kernel_rfl⟩
instance : TyB Tryz.prog 48 24 := ⟨by kernel_rfl⟩
instance : Agg Tryz.prog 48 false := ⟨by kernel_rfl⟩
instance : TyU Tryz.prog 48 (.slice 101) := ⟨Tryz.underlying48⟩
instance : TyZ Tryz.prog 48 (.slice none 0 0) := ⟨by kernel_rfl⟩
instance : TySz Tryz.prog 49 1 := ⟨by kernel_rfl⟩
instance : TyB Tryz.prog 49 24 := ⟨by kernel_rfl⟩
instance : Agg Tryz.prog 49 false := ⟨by kernel_rfl⟩
instance : TyU Tryz.prog 49 (.slice 45) := ⟨Tryz.underlying49⟩
instance : TyZ Tryz.prog 49 (.slice none 0 0) := ⟨by kernel_rfl⟩
instance : TySz Tryz.prog 50 1 := ⟨by kernel_rfl⟩
instance : TyB Tryz.prog 50 24 := ⟨by kernel_rfl⟩
instance : Agg Tryz.prog 50 false := ⟨by kernel_rfl⟩
instance : TyU Tryz.prog 50 (.slice 4) := ⟨Tryz.underlying50⟩
instance : TyZ Tryz.prog 50 (.slice none 0 0) := ⟨by kernel_rfl⟩
instance : TySz Tryz.prog 51 1 := ⟨by kernel_rfl⟩
instance : TyB Tryz.prog 51 24 := ⟨by kernel_rfl⟩
instance : Agg Tryz.prog 51 false := ⟨by kernel_rfl⟩
instance : TyU Tryz.prog 51 (.slice 118) := ⟨Tryz.underlying51⟩
instance : TyZ Tryz.prog 51 (.slice none 0 0) := ⟨by kernel_rfl⟩
instance : TySz Tryz.prog 52 1 := ⟨by kernel_rfl⟩
instance : TyB Tryz.prog 52 24 := ⟨by kernel_rfl⟩
instance : Agg Tryz.prog 52 true := ⟨by kernel_rfl⟩
instance : TyZ Tryz.prog 52 (.agg #[.slice none 0 0]) := ⟨by kernel_rfl⟩
instance : NotI Tryz.prog 52 := ⟨by kernel_rfl⟩
instance : TyF Tryz.prog 52 0 0 51 := ⟨⟨_, _, Tryz.underlying52, rfl, rfl, rfl⟩⟩
instance : TyPl Tryz.prog 52 [(0, 1)] := ⟨⟨_, Tryz.underlying52, by kernel_rfl⟩⟩
instance : TySz Tryz.prog 53 1 := ⟨by kernel_rfl⟩
instance : TyB Tryz.prog 53 24 := ⟨by kernel_rfl⟩
instance : Agg Tryz.prog 53 true := ⟨by kernel_rfl⟩
instance : TyZ Tryz.prog 53 (.agg #[.slice none 0 0]) := ⟨by kernel_rfl⟩
instance : NotI Tryz.prog 53 := ⟨by kernel_rfl⟩
instance : TyF Tryz.prog 53 0 0 51 := ⟨⟨_, _, Tryz.underlying53, rfl, rfl, rfl⟩⟩
instance : TyPl Tryz.prog 53 [(0, 1)] := ⟨⟨_, Tryz.underlying53, by kernel_rfl⟩⟩
instance : TySz Tryz.prog 54 1 := ⟨by kernel_rfl⟩
instance : TyB Tryz.prog 54 24 := ⟨by kernel_rfl⟩
instance : Agg Tryz.prog 54 false := ⟨by kernel_rfl⟩
instance : TyU Tryz.prog 54 (.slice 62) := ⟨Tryz.underlying54⟩
instance : TyZ Tryz.prog 54 (.slice none 0 0) := ⟨by kernel_rfl⟩
instance : TySz Tryz.prog 55 1 := ⟨by kernel_rfl⟩
instance : TyB Tryz.prog 55 24 := ⟨by kernel_rfl⟩
instance : Agg Tryz.prog 55 true := ⟨by kernel_rfl⟩
instance : TyZ Tryz.prog 55 (.agg #[.slice none 0 0]) := ⟨by kernel_rfl⟩
instance : NotI Tryz.prog 55 := ⟨by kernel_rfl⟩
instance : TyF Tryz.prog 55 0 0 54 := ⟨⟨_, _, Tryz.underlying55, rfl, rfl, rfl⟩⟩
instance : TyPl Tryz.prog 55 [(0, 1)] := ⟨⟨_, Tryz.underlying55, by kernel_rfl⟩⟩
instance : TySz Tryz.prog 56 1 := ⟨by kernel_rfl⟩
instance : TyB Tryz.prog 56 24 := ⟨by kernel_rfl⟩
instance : Agg Tryz.prog 56 true := ⟨by kernel_rfl⟩
instance : TyZ Tryz.prog 56 (.agg #[.slice none 0 0]) := ⟨by kernel_rfl⟩
instance : NotI Tryz.prog 56 := ⟨by kernel_rfl⟩
instance : TyF Tryz.prog 56 0 0 54 := ⟨⟨_, _, Tryz.underlying56, rfl, rfl, rfl⟩⟩
instance : TyPl Tryz.prog 56 [(0, 1)] := ⟨⟨_, Tryz.underlying56, by kernel_rfl⟩⟩
instance : TySz Tryz.prog 57 1 := ⟨by kernel_rfl⟩
instance : TyB Tryz.prog 57 8 := ⟨by kernel_rfl⟩
instance : Agg Tryz.prog 57 false := ⟨by kernel_rfl⟩
instance : TyU Tryz.prog 57 (.pointer 160) := ⟨Tryz.underlying57⟩
instance : TyZ Tryz.prog 57 (.pointer none) := ⟨by kernel_rfl⟩
instance : TySz Tryz.prog 58 10 := ⟨by kernel_rfl⟩
instance : TyB Tryz.prog 58 160 := ⟨by kernel_rfl⟩
instance : Agg Tryz.prog 58 true := ⟨by kernel_rfl⟩
instance : TyZ Tryz.prog 58 (.agg #[.int .i64 0, .int .i64 0, .bool false, .int .i64 0, .slice none 0 0, .slice none 0 0, .slice none 0 0, .slice none 0 0, .slice none 0 0, .pointer none]) := ⟨by kernel_rfl⟩
instance : NotI Tryz.prog 58 := ⟨by kernel_rfl⟩
instance : TyF Tryz.prog 58 0 0 3 := ⟨⟨_, _, Tryz.underlying58, rfl, rfl, rfl⟩⟩
instance : TyF Tryz.prog 58 1 1 3 := ⟨⟨_, _, Tryz.underlying58, rfl, rfl, rfl⟩⟩
instance : TyF Tryz.prog 58 2 2 4 := ⟨⟨_, _, Tryz.underlying58, rfl, rfl, rfl⟩⟩
instance : TyF Tryz.prog 58 3 3 3 := ⟨⟨_, _, Tryz.underlying58, rfl, rfl, rfl⟩⟩
instance : TyF Tryz.prog 58 4 4 48 := ⟨⟨_, _, Tryz.underlying58, rfl, rfl, rfl⟩⟩
instance : TyF Tryz.prog 58 5 5 49 := ⟨⟨_, _, Tryz.underlying58, rfl, rfl, rfl⟩⟩
instance : TyF Tryz.prog 58 6 6 50 := ⟨⟨_, _, Tryz.underlying58, rfl, rfl, rfl⟩⟩
instance : TyF Tryz.prog 58 7 7 53 := ⟨⟨_, _, Tryz.underlying58, rfl, rfl, rfl⟩⟩
instance : TyF Tryz.prog 58 8 8 56 := ⟨⟨_, _, Tryz.underlying58, rfl, rfl, rfl⟩⟩
instance : TyF Tryz.prog 58 9 9 57 := ⟨⟨_, _, Tryz.underlying58, rfl, rfl, rfl⟩⟩
instance : TyPl Tryz.prog 58 [(0, 1), (1, 1), (2, 1), (3, 1), (4, 1), (5, 1), (6, 1), (7, 1), (8, 1), (9, 1)] := ⟨⟨_, Tryz.underlying58, by kernel_rfl⟩⟩
instance : TySz Tryz.prog 59 10 := ⟨by kernel_rfl⟩
instance : TyB Tryz.prog 59 160 := ⟨by kernel_rfl⟩
instance : Agg Tryz.prog 59 true := ⟨by kernel_rfl⟩
instance : TyZ Tryz.prog 59 (.agg #[.int .i64 0, .int .i64 0, .bool false, .int .i64 0, .slice none 0 0, .slice none 0 0, .slice none 0 0, .slice none 0 0, .slice none 0 0, .pointer none]) := ⟨by kernel_rfl⟩
instance : NotI Tryz.prog 59 := ⟨by kernel_rfl⟩
instance : TyF Tryz.prog 59 0 0 3 := ⟨⟨_, _, Tryz.underlying59, rfl, rfl, rfl⟩⟩
instance : TyF Tryz.prog 59 1 1 3 := ⟨⟨_, _, Tryz.underlying59, rfl, rfl, rfl⟩⟩
instance : TyF Tryz.prog 59 2 2 4 := ⟨⟨_, _, Tryz.underlying59, rfl, rfl, rfl⟩⟩
instance : TyF Tryz.prog 59 3 3 3 := ⟨⟨_, _, Tryz.underlying59, rfl, rfl, rfl⟩⟩
instance : TyF Tryz.prog 59 4 4 48 := ⟨⟨_, _, Tryz.underlying59, rfl, rfl, rfl⟩⟩
instance : TyF Tryz.prog 59 5 5 49 := ⟨⟨_, _, Tryz.underlying59, rfl, rfl, rfl⟩⟩
instance : TyF Tryz.prog 59 6 6 50 := ⟨⟨_, _, Tryz.underlying59, rfl, rfl, rfl⟩⟩
instance : TyF Tryz.prog 59 7 7 53 := ⟨⟨_, _, Tryz.underlying59, rfl, rfl, rfl⟩⟩
instance : TyF Tryz.prog 59 8 8 56 := ⟨⟨_, _, Tryz.underlying59, rfl, rfl, rfl⟩⟩
instance : TyF Tryz.prog 59 9 9 57 := ⟨⟨_, _, Tryz.underlying59, rfl, rfl, rfl⟩⟩
instance : TyPl Tryz.prog 59 [(0, 1), (1, 1), (2, 1), (3, 1), (4, 1), (5, 1), (6, 1), (7, 1), (8, 1), (9, 1)] := ⟨⟨_, Tryz.underlying59, by kernel_rfl⟩⟩
instance : TySz Tryz.prog 60 1 := ⟨by kernel_rfl⟩
instance : TyB Tryz.prog 60 8 := ⟨by kernel_rfl⟩
instance : Agg Tryz.prog 60 false := ⟨by kernel_rfl⟩
instance : TyZ Tryz.prog 60 (.nilFunc) := ⟨by kernel_rfl⟩
instance : TySz Tryz.prog 61 13 := ⟨by kernel_rfl⟩
instance : TyB Tryz.prog 61 104 := ⟨by kernel_rfl⟩
instance : Agg Tryz.prog 61 true := ⟨by kernel_rfl⟩
instance : TyZ Tryz.prog 61 (.agg #[.int .i32 0, .int .i64 0, .int .i64 0, .slice none 0 0, .int .i32 0, .int .i32 0, .int .i32 0, .int .i32 0, .int .i64 0, .int .i64 0, .int .u32 0, .int .i64 0, .int .i32 0]) := ⟨by kernel_rfl⟩
instance : NotI Tryz.prog 61 := ⟨by kernel_rfl⟩
instance : TyF Tryz.prog 61 0 0 45 := ⟨⟨_, _, Tryz.underlying61, rfl, rfl, rfl⟩⟩
instance : TyF Tryz.prog 61 1 12 21 := ⟨⟨_, _, Tryz.underlying61, rfl, rfl, rfl⟩⟩
instance : TyPl Tryz.prog 61 [(0, 12), (12, 1)] := ⟨⟨_, Tryz.underlying61, by kernel_rfl⟩⟩
instance : TySz Tryz.prog 62 13 := ⟨by kernel_rfl⟩
instance : TyB Tryz.prog 62 104 := ⟨by kernel_rfl⟩
instance : Agg Tryz.prog 62 true := ⟨by kernel_rfl⟩
instance : TyZ Tryz.prog 62 (.agg #[.int .i32 0, .int .i64 0, .int .i64 0, .slice none 0 0, .int .i32 0, .int .i32 0, .int .i32 0, .int .i32 0, .int .i64 0, .int .i64 0, .int .u32 0, .int .i64 0, .int .i32 0]) := ⟨by kernel_rfl⟩
instance : NotI Tryz.prog 62 := ⟨by kernel_rfl⟩
instance : TyF Tryz.prog 62 0 0 45 := ⟨⟨_, _, Tryz.underlying62, rfl, rfl, rfl⟩⟩
instance : TyF Tryz.prog 62 1 12 21 := ⟨⟨_, _, Tryz.underlying62, rfl, rfl, rfl⟩⟩
instance : TyPl Tryz.prog 62 [(0, 12), (12, 1)] := ⟨⟨_, Tryz.underlying62, by kernel_rfl⟩⟩
instance : TySz Tryz.prog 63 1 := ⟨by kernel_rfl⟩
instance : TyB Tryz.prog 63 24 := ⟨by kernel_rfl⟩
instance : Agg Tryz.prog 63 false := ⟨by kernel_rfl⟩
instance : TyU Tryz.prog 63 (.slice 81) := ⟨Tryz.underlying63⟩
instance : TyZ Tryz.prog 63 (.slice none 0 0) := ⟨by kernel_rfl⟩
instance : TySz Tryz.prog 65 1 := ⟨by kernel_rfl⟩
instance : TyB Tryz.prog 65 8 := ⟨by kernel_rfl⟩
instance : Agg Tryz.prog 65 false := ⟨by kernel_rfl⟩
instance : TyZ Tryz.prog 65 (.nilFunc) := ⟨by kernel_rfl⟩
instance : TySz Tryz.prog 66 1 := ⟨by kernel_rfl⟩
instance : TyB Tryz.prog 66 8 := ⟨by kernel_rfl⟩
instance : Agg Tryz.prog 66 false := ⟨by kernel_rfl⟩
instance : TyZ Tryz.prog 66 (.nilFunc) := ⟨by kernel_rfl⟩
instance : TySz Tryz.prog 67 1 := ⟨by kernel_rfl⟩
instance : TyB Tryz.prog 67 8 := ⟨by kernel_rfl⟩
instance : Agg Tryz.prog 67 false := ⟨by kernel_rfl⟩
instance : TyZ Tryz.prog 67 (.nilFunc) := ⟨by kernel_rfl⟩
instance : TySz Tryz.prog 68 1 := ⟨by kernel_rfl⟩
instance : TyB Tryz.prog 68 8 := ⟨by kernel_rfl⟩
instance : Agg Tryz.prog 68 false := ⟨by kernel_rfl⟩
instance : TyZ Tryz.prog 68 (.nilFunc) := ⟨by kernel_rfl⟩
instance : TySz Tryz.prog 70 1 := ⟨by kernel_rfl⟩
instance : TyB Tryz.prog 70 8 := ⟨by kernel_rfl⟩
instance : Agg Tryz.prog 70 false := ⟨by kernel_rfl⟩
instance : TyZ Tryz.prog 70 (.nilFunc) := ⟨by kernel_rfl⟩
instance : TySz Tryz.prog 71 1 := ⟨by kernel_rfl⟩
instance : TyB Tryz.prog 71 8 := ⟨by kernel_rfl⟩
instance : Agg Tryz.prog 71 false := ⟨by kernel_rfl⟩
instance : TyZ Tryz.prog 71 (.nilFunc) := ⟨by kernel_rfl⟩
instance : TySz Tryz.prog 73 1 := ⟨by kernel_rfl⟩
instance : TyB Tryz.prog 73 8 := ⟨by kernel_rfl⟩
instance : Agg Tryz.prog 73 false := ⟨by kernel_rfl⟩
instance : TyZ Tryz.prog 73 (.nilFunc) := ⟨by kernel_rfl⟩
instance : TySz Tryz.prog 74 1 := ⟨by kernel_rfl⟩
instance : TyB Tryz.prog 74 8 := ⟨by kernel_rfl⟩
instance : Agg Tryz.prog 74 false := ⟨by kernel_rfl⟩
instance : TyZ Tryz.prog 74 (.nilFunc) := ⟨by kernel_rfl⟩
instance : TySz Tryz.prog 75 1 := ⟨by kernel_rfl⟩
instance : TyB Tryz.prog 75 8 := ⟨by kernel_rfl⟩
instance : Agg Tryz.prog 75 false := ⟨by kernel_rfl⟩
instance : TyZ Tryz.prog 75 (.nilFunc) := ⟨by kernel_rfl⟩
instance : TySz Tryz.prog 76 1 := ⟨by kernel_rfl⟩
instance : TyB Tryz.prog 76 8 := ⟨by kernel_rfl⟩
instance : Agg Tryz.prog 76 false := ⟨by kernel_rfl⟩
instance : TyZ Tryz.prog 76 (.nilFunc) := ⟨by kernel_rfl⟩
instance : TySz Tryz.prog 77 1 := ⟨by kernel_rfl⟩
instance : TyB Tryz.prog 77 8 := ⟨by kernel_rfl⟩
instance : Agg Tryz.prog 77 false := ⟨by kernel_rfl⟩
instance : TyZ Tryz.prog 77 (.nilFunc) := ⟨by kernel_rfl⟩
instance : TySz Tryz.prog 79 1 := ⟨by kernel_rfl⟩
instance : TyB Tryz.prog 79 8 := ⟨by kernel_rfl⟩
instance : Agg Tryz.prog 79 false := ⟨by kernel_rfl⟩
instance : TyZ Tryz.prog 79 (.nilFunc) := ⟨by kernel_rfl⟩
instance : TySz Tryz.prog 80 7 := ⟨by kernel_rfl⟩
instance : TyB Tryz.prog 80 48 := ⟨by kernel_rfl⟩
instance : Agg Tryz.prog 80 true := ⟨by kernel_rfl⟩
instance : TyZ Tryz.prog 80 (.agg #[.int .i64 0, .int .i64 0, .int .i64 0, .int .i64 0, .int .i32 0, .int .i32 0, .int .i32 0]) := ⟨by kernel_rfl⟩
instance : NotI Tryz.prog 80 := ⟨by kernel_rfl⟩
instance : TyF Tryz.prog 80 0 0 3 := ⟨⟨_, _, Tryz.underlying80, rfl, rfl, rfl⟩⟩
instance : TyF Tryz.prog 80 1 1 3 := ⟨⟨_, _, Tryz.underlying80, rfl, rfl, rfl⟩⟩
instance : TyF Tryz.prog 80 2 2 3 := ⟨⟨_, _, Tryz.underlying80, rfl, rfl, rfl⟩⟩
instance : TyF Tryz.prog 80 3 3 3 := ⟨⟨_, _, Tryz.underlying80, rfl, rfl, rfl⟩⟩
instance : TyF Tryz.prog 80 4 4 21 := ⟨⟨_, _, Tryz.underlying80, rfl, rfl, rfl⟩⟩
instance : TyF Tryz.prog 80 5 5 21 := ⟨⟨_, _, Tryz.underlying80, rfl, rfl, rfl⟩⟩
instance : TyF Tryz.prog 80 6 6 21 := ⟨⟨_, _, Tryz.underlying80, rfl, rfl, rfl⟩⟩
instance : TyPl Tryz.prog 80 [(0, 1), (1, 1), (2, 1), (3, 1), (4, 1), (5, 1), (6, 1)] := ⟨⟨_, Tryz.underlying80, by kernel_rfl⟩⟩
instance : TySz Tryz.prog 81 7 := ⟨by kernel_rfl⟩
instance : TyB Tryz.prog 81 48 := ⟨by kernel_rfl⟩
instance : Agg Tryz.prog 81 true := ⟨by kernel_rfl⟩
instance : TyZ Tryz.prog 81 (.agg #[.int .i64 0, .int .i64 0, .int .i64 0, .int .i64 0, .int .i32 0, .int .i32 0, .int .i32 0]) := ⟨by kernel_rfl⟩
instance : NotI Tryz.prog 81 := ⟨by kernel_rfl⟩
instance : TyF Tryz.prog 81 0 0 3 := ⟨⟨_, _, Tryz.underlying81, rfl, rfl, rfl⟩⟩
instance : TyF Tryz.prog 81 1 1 3 := ⟨⟨_, _, Tryz.underlying81, rfl, rfl, rfl⟩⟩
instance : TyF Tryz.prog 81 2 2 3 := ⟨⟨_, _, Tryz.underlying81, rfl, rfl, rfl⟩⟩
instance : TyF Tryz.prog 81 3 3 3 := ⟨⟨_, _, Tryz.underlying81, rfl, rfl, rfl⟩⟩
instance : TyF Tryz.prog 81 4 4 21 := ⟨⟨_, _, Tryz.underlying81, rfl, rfl, rfl⟩⟩
instance : TyF Tryz.prog 81 5 5 21 := ⟨⟨_, _, Tryz.underlying81, rfl, rfl, rfl⟩⟩
instance : TyF Tryz.prog 81 6 6 21 := ⟨⟨_, _, Tryz.underlying81, rfl, rfl, rfl⟩⟩
instance : TyPl Tryz.prog 81 [(0, 1), (1, 1), (2, 1), (3, 1), (4, 1), (5, 1), (6, 1)] := ⟨⟨_, Tryz.underlying81, by kernel_rfl⟩⟩
instance : TySz Tryz.prog 82 1 := ⟨by kernel_rfl⟩
instance : TyB Tryz.prog 82 8 := ⟨by kernel_rfl⟩
instance : Agg Tryz.prog 82 false := ⟨by kernel_rfl⟩
instance : TyZ Tryz.prog 82 (.nilFunc) := ⟨by kernel_rfl⟩
instance : TySz Tryz.prog 83 1 := ⟨by kernel_rfl⟩
instance : TyB Tryz.prog 83 8 := ⟨by kernel_rfl⟩
instance : Agg Tryz.prog 83 false := ⟨by kernel_rfl⟩
instance : TyZ Tryz.prog 83 (.nilFunc) := ⟨by kernel_rfl⟩
instance : TySz Tryz.prog 84 1 := ⟨by kernel_rfl⟩
instance : TyB Tryz.prog 84 8 := ⟨by kernel_rfl⟩
instance : Agg Tryz.prog 84 false := ⟨by kernel_rfl⟩
instance : TyZ Tryz.prog 84 (.nilFunc) := ⟨by kernel_rfl⟩
instance : TySz Tryz.prog 85 1 := ⟨by kernel_rfl⟩
instance : TyB Tryz.prog 85 8 := ⟨by kernel_rfl⟩
instance : Agg Tryz.prog 85 false := ⟨by kernel_rfl⟩
instance : TyU Tryz.prog 85 (.int .u64) := ⟨Tryz.underlying85⟩
instance : TyZ Tryz.prog 85 (.int .u64 0) := ⟨by kernel_rfl⟩
instance : TySz Tryz.prog 86 1 := ⟨by kernel_rfl⟩
instance : TyB Tryz.prog 86 8 := ⟨by kernel_rfl⟩
instance : Agg Tryz.prog 86 false := ⟨by kernel_rfl⟩
instance : TyU Tryz.prog 86 (.pointer 148) := ⟨Tryz.underlying86⟩
instance : TyZ Tryz.prog 86 (.pointer none) := ⟨by kernel_rfl⟩
instance : TySz Tryz.prog 87 1 := ⟨by kernel_rfl⟩
instance : TyB Tryz.prog 87 8 := ⟨by kernel_rfl⟩
instance : Agg Tryz.prog 87 false := ⟨by kernel_rfl⟩
instance : TyZ Tryz.prog 87 (.nilFunc) := ⟨by kernel_rfl⟩
instance : TySz Tryz.prog 88 1 := ⟨by kernel_rfl⟩
instance : TyB Tryz.prog 88 8 := ⟨by kernel_rfl⟩
instance : Agg Tryz.prog 88 false := ⟨by kernel_rfl⟩
instance : TyU Tryz.prog 88 (.pointer 151) := ⟨Tryz.underlying88⟩
instance : TyZ Tryz.prog 88 (.pointer none) := ⟨by kernel_rfl⟩
instance : TySz Tryz.prog 89 1 := ⟨by kernel_rfl⟩
instance : TyB Tryz.prog 89 8 := ⟨by kernel_rfl⟩
instance : Agg Tryz.prog 89 false := ⟨by kernel_rfl⟩
instance : TyZ Tryz.prog 89 (.nilFunc) := ⟨by kernel_rfl⟩
instance : TySz Tryz.prog 90 1 := ⟨by kernel_rfl⟩
instance : TyB Tryz.prog 90 8 := ⟨by kernel_rfl⟩
instance : Agg Tryz.prog 90 false := ⟨by kernel_rfl⟩
instance : TyU Tryz.prog 90 (.pointer 156) := ⟨Tryz.underlying90⟩
instance : TyZ Tryz.prog 90 (.pointer none) := ⟨by kernel_rfl⟩
instance : TySz Tryz.prog 91 1 := ⟨by kernel_rfl⟩
instance : TyB Tryz.prog 91 8 := ⟨by kernel_rfl⟩
instance : Agg Tryz.prog 91 false := ⟨by kernel_rfl⟩
instance : TyZ Tryz.prog 91 (.nilFunc) := ⟨by kernel_rfl⟩
instance : TySz Tryz.prog 92 1 := ⟨by kernel_rfl⟩
instance : TyB Tryz.prog 92 24 := ⟨by kernel_rfl⟩
instance : Agg Tryz.prog 92 false := ⟨by kernel_rfl⟩
instance : TyU Tryz.prog 92 (.slice 95) := ⟨Tryz.underlying92⟩
instance : TyZ Tryz.prog 92 (.slice none 0 0) := ⟨by kernel_rfl⟩
instance : TySz Tryz.prog 93 7 := ⟨by kernel_rfl⟩
instance : TyB Tryz.prog 93 72 := ⟨by kernel_rfl⟩
instance : Agg Tryz.prog 93 true := ⟨by kernel_rfl⟩
instance : TyZ Tryz.prog 93 (.agg #[.int .i64 0, .bool false, .int .i64 0, .slice none 0 0, .pointer none, .pointer none, .nilFunc]) := ⟨by kernel_rfl⟩
instance : NotI Tryz.prog 93 := ⟨by kernel_rfl⟩
instance : TyF Tryz.prog 93 0 0 3 := ⟨⟨_, _, Tryz.underlying93, rfl, rfl, rfl⟩⟩
instance : TyF Tryz.prog 93 1 1 4 := ⟨⟨_, _, Tryz.underlying93, rfl, rfl, rfl⟩⟩
instance : TyF Tryz.prog 93 2 2 3 := ⟨⟨_, _, Tryz.underlying93, rfl, rfl, rfl⟩⟩
instance : TyF Tryz.prog 93 3 3 92 := ⟨⟨_, _, Tryz.underlying93, rfl, rfl, rfl⟩⟩
instance : TyF Tryz.prog 93 4 4 86 := ⟨⟨_, _, Tryz.underlying93, rfl, rfl, rfl⟩⟩
instance : TyF Tryz.prog 93 5 5 88 := ⟨⟨_, _, Tryz.underlying93, rfl, rfl, rfl⟩⟩
instance : TyF Tryz.prog 93 6 6 83 := ⟨⟨_, _, Tryz.underlying93, rfl, rfl, rfl⟩⟩
instance : TyPl Tryz.prog 93 [(0, 1), (1, 1), (2, 1), (3, 1), (4, 1), (5, 1), (6, 1)] := ⟨⟨_, Tryz.underlying93, by kernel_rfl⟩⟩
instance : TySz Tryz.prog 94 7 := ⟨by kernel_rfl⟩
instance : TyB Tryz.prog 94 72 := ⟨by kernel_rfl⟩
instance : Agg Tryz.prog 94 true := ⟨by kernel_rfl⟩
instance : TyZ Tryz.prog 94 (.agg #[.int .i64 0, .bool false, .int .i64 0, .slice none 0 0, .pointer none, .pointer none, .nilFunc]) := ⟨by kernel_rfl⟩
instance : NotI Tryz.prog 94 := ⟨by kernel_rfl⟩
instance : TyF Tryz.prog 94 0 0 3 := ⟨⟨_, _, Tryz.underlying94, rfl, rfl, rfl⟩⟩
instance : TyF Tryz.prog 94 1 1 4 := ⟨⟨_, _, Tryz.underlying94, rfl, rfl, rfl⟩⟩
instance : TyF Tryz.prog 94 2 2 3 := ⟨⟨_, _, Tryz.underlying94, rfl, rfl, rfl⟩⟩
instance : TyF Tryz.prog 94 3 3 92 := ⟨⟨_, _, Tryz.underlying94, rfl, rfl, rfl⟩⟩
instance : TyF Tryz.prog 94 4 4 86 := ⟨⟨_, _, Tryz.underlying94, rfl, rfl, rfl⟩⟩
instance : TyF Tryz.prog 94 5 5 88 := ⟨⟨_, _, Tryz.underlying94, rfl, rfl, rfl⟩⟩
instance : TyF Tryz.prog 94 6 6 83 := ⟨⟨_, _, Tryz.underlying94, rfl, rfl, rfl⟩⟩
instance : TyPl Tryz.prog 94 [(0, 1), (1, 1), (2, 1), (3, 1), (4, 1), (5, 1), (6, 1)] := ⟨⟨_, Tryz.underlying94, by kernel_rfl⟩⟩
instance : TySz Tryz.prog 95 1 := ⟨by kernel_rfl⟩
instance : TyB Tryz.prog 95 8 := ⟨by kernel_rfl⟩
instance : Agg Tryz.prog 95 false := ⟨by kernel_rfl⟩
instance : TyU Tryz.prog 95 (.pointer 99) := ⟨Tryz.underlying95⟩
instance : TyZ Tryz.prog 95 (.pointer none) := ⟨by kernel_rfl⟩
instance : TySz Tryz.prog 96 1 := ⟨by kernel_rfl⟩
instance : TyB Tryz.prog 96 8 := ⟨by kernel_rfl⟩
instance : Agg Tryz.prog 96 false := ⟨by kernel_rfl⟩
instance : TyU Tryz.prog 96 (.pointer 158) := ⟨Tryz.underlying96⟩
instance : TyZ Tryz.prog 96 (.pointer none) := ⟨by kernel_rfl⟩
instance : TySz Tryz.prog 97 1 := ⟨by kernel_rfl⟩
instance : TyB Tryz.prog 97 8 := ⟨by kernel_rfl⟩
instance : Agg Tryz.prog 97 false := ⟨by kernel_rfl⟩
instance : TyZ Tryz.prog 97 (.nilFunc) := ⟨by kernel_rfl⟩
instance : TySz Tryz.prog 98 14 := ⟨by kernel_rfl⟩
instance : TyB Tryz.prog 98 112 := ⟨by kernel_rfl⟩
instance : Agg Tryz.prog 98 true := ⟨by kernel_rfl⟩
instance : TyZ Tryz.prog 98 (.agg #[.pointer none, .int .i32 0, .int .i64 0, .int .i64 0, .slice none 0 0, .int .i32 0, .int .i32 0, .int .i32 0, .int .i32 0, .int .i64 0, .int .i64 0, .int .u32 0, .int .i64 0, .bool false]) := ⟨by kernel_rfl⟩
instance : NotI Tryz.prog 98 := ⟨by kernel_rfl⟩
instance : TyF Tryz.prog 98 0 0 96 := ⟨⟨_, _, Tryz.underlying98, rfl, rfl, rfl⟩⟩
instance : TyF Tryz.prog 98 1 1 45 := ⟨⟨_, _, Tryz.underlying98, rfl, rfl, rfl⟩⟩
instance : TyF Tryz.prog 98 2 13 4 := ⟨⟨_, _, Tryz.underlying98, rfl, rfl, rfl⟩⟩
instance : TyPl Tryz.prog 98 [(0, 1), (1, 12), (13, 1)] := ⟨⟨_, Tryz.underlying98, by kernel_rfl⟩⟩
instance : TySz Tryz.prog 99 14 := ⟨by kernel_rfl⟩
instance : TyB Tryz.prog 99 112 := ⟨by kernel_rfl⟩
instance : Agg Tryz.prog 99 true := ⟨by kernel_rfl⟩
instance : TyZ Tryz.prog 99 (.agg #[.pointer none, .int .i32 0, .int .i64 0, .int .i64 0, .slice none 0 0, .int .i32 0, .int .i32 0, .int .i32 0, .int .i32 0, .int .i64 0, .int .i64 0, .int .u32 0, .int .i64 0, .bool false]) := ⟨by kernel_rfl⟩
instance : NotI Tryz.prog 99 := ⟨by kernel_rfl⟩
instance : TyF Tryz.prog 99 0 0 96 := ⟨⟨_, _, Tryz.underlying99, rfl, rfl, rfl⟩⟩
instance : TyF Tryz.prog 99 1 1 45 := ⟨⟨_, _, Tryz.underlying99, rfl, rfl, rfl⟩⟩
instance : TyF Tryz.prog 99 2 13 4 := ⟨⟨_, _, Tryz.underlying99, rfl, rfl, rfl⟩⟩
instance : TyPl Tryz.prog 99 [(0, 1), (1, 12), (13, 1)] := ⟨⟨_, Tryz.underlying99, by kernel_rfl⟩⟩
instance : TySz Tryz.prog 100 1 := ⟨by kernel_rfl⟩
instance : TyB Tryz.prog 100 8 := ⟨by kernel_rfl⟩
instance : Agg Tryz.prog 100 false := ⟨by kernel_rfl⟩
instance : TyZ Tryz.prog 100 (.nilFunc) := ⟨by kernel_rfl⟩
instance : TySz Tryz.prog 101 1 := ⟨by kernel_rfl⟩
instance : TyB Tryz.prog 101 8 := ⟨by kernel_rfl⟩
instance : Agg Tryz.prog 101 false := ⟨by kernel_rfl⟩
instance : TyU Tryz.prog 101 (.pointer 141) := ⟨Tryz.underlying101⟩
instance : TyZ Tryz.prog 101 (.pointer none) := ⟨by kernel_rfl⟩
instance : TySz Tryz.prog 102 1 := ⟨by kernel_rfl⟩
instance : TyB Tryz.prog 102 8 := ⟨by kernel_rfl⟩
instance : Agg Tryz.prog 102 false := ⟨by kernel_rfl⟩
instance : TyZ Tryz.prog 102 (.nilFunc) := ⟨by kernel_rfl⟩
instance : TySz Tryz.prog 103 1 := ⟨by kernel_rfl⟩
instance : TyB Tryz.prog 103 24 := ⟨by kernel_rfl⟩
instance : Agg Tryz.prog 103 false := ⟨by kernel_rfl⟩
instance : TyU Tryz.prog 103 (.slice 3) := ⟨Tryz.underlying103⟩
instance : TyZ Tryz.prog 103 (.slice none 0 0) := ⟨by kernel_rfl⟩
instance : TySz Tryz.prog 104 1 := ⟨by kernel_rfl⟩
instance : TyB Tryz.prog 104 24 := ⟨by kernel_rfl⟩
instance : Agg Tryz.prog 104 false := ⟨by kernel_rfl⟩
instance : TyU Tryz.prog 104 (.slice 110) := ⟨Tryz.underlying104⟩
instance : TyZ Tryz.prog 104 (.slice none 0 0) := ⟨by kernel_rfl⟩
instance : TySz Tryz.prog 105 2 := ⟨by kernel_rfl⟩
instance : TyB Tryz.prog 105 48 := ⟨by kernel_rfl⟩
instance : Agg Tryz.prog 105 true := ⟨by kernel_rfl⟩
instance : TyZ Tryz.prog 105 (.agg #[.slice none 0 0, .slice none 0 0]) := ⟨by kernel_rfl⟩
instance : NotI Tryz.prog 105 := ⟨by kernel_rfl⟩
instance : TyF Tryz.prog 105 0 0 104 := ⟨⟨_, _, Tryz.underlying105, rfl, rfl, rfl⟩⟩
instance : TyF Tryz.prog 105 1 1 103 := ⟨⟨_, _, Tryz.underlying105, rfl, rfl, rfl⟩⟩
instance : TyPl Tryz.prog 105 [(0, 1), (1, 1)] := ⟨⟨_, Tryz.underlying105, by kernel_rfl⟩⟩
instance : TySz Tryz.prog 106 2 := ⟨by kernel_rfl⟩
instance : TyB Tryz.prog 106 48 := ⟨by kernel_rfl⟩
instance : Agg Tryz.prog 106 true := ⟨by kernel_rfl⟩
instance : TyZ Tryz.prog 106 (.agg #[.slice none 0 0, .slice none 0 0]) := ⟨by kernel_rfl⟩
instance : NotI Tryz.prog 106 := ⟨by kernel_rfl⟩
instance : TyF Tryz.prog 106 0 0 104 := ⟨⟨_, _, Tryz.underlying106, rfl, rfl, rfl⟩⟩
instance : TyF Tryz.prog 106 1 1 103 := ⟨⟨_, _, Tryz.underlying106, rfl, rfl, rfl⟩⟩
instance : TyPl Tryz.prog 106 [(0, 1), (1, 1)] := ⟨⟨_, Tryz.underlying106, by kernel_rfl⟩⟩
instance : TySz Tryz.prog 107 1 := ⟨by kernel_rfl⟩
instance : TyB Tryz.prog 107 8 := ⟨by kernel_rfl⟩
instance : Agg Tryz.prog 107 false := ⟨by kernel_rfl⟩
instance : TyZ Tryz.prog 107 (.nilFunc) := ⟨by kernel_rfl⟩
instance : TySz Tryz.prog 108 2 := ⟨by kernel_rfl⟩
instance : TyB Tryz.prog 108 48 := ⟨by kernel_rfl⟩
instance : Agg Tryz.prog 108 true := ⟨by kernel_rfl⟩
instance : TyZ Tryz.prog 108 (.agg #[.slice none 0 0, .slice none 0 0]) := ⟨by kernel_rfl⟩
instance : NotI Tryz.prog 108 := ⟨by kernel_rfl⟩
instance : TyF Tryz.prog 108 0 0 103 := ⟨⟨_, _, Tryz.underlying108, rfl, rfl, rfl⟩⟩
instance : TyF Tryz.prog 108 1 1 104 := ⟨⟨_, _, Tryz.underlying108, rfl, rfl, rfl⟩⟩
instance : TyPl Tryz.prog 108 [(0, 1), (1, 1)] := ⟨⟨_, Tryz.underlying108, by kernel_rfl⟩⟩
instance : TySz Tryz.prog 109 2 := ⟨by kernel_rfl⟩
instance : TyB Tryz.prog 109 48 := ⟨by kernel_rfl⟩
instance : Agg Tryz.prog 109 true := ⟨by kernel_rfl⟩
instance : TyZ Tryz.prog 109 (.agg #[.slice none 0 0, .slice none 0 0]) := ⟨by kernel_rfl⟩
instance : NotI Tryz.prog 109 := ⟨by kernel_rfl⟩
instance : TyF Tryz.prog 109 0 0 103 := ⟨⟨_, _, Tryz.underlying109, rfl, rfl, rfl⟩⟩
instance : TyF Tryz.prog 109 1 1 104 := ⟨⟨_, _, Tryz.underlying109, rfl, rfl, rfl⟩⟩
instance : TyPl Tryz.prog 109 [(0, 1), (1, 1)] := ⟨⟨_, Tryz.underlying109, by kernel_rfl⟩⟩
instance : TySz Tryz.prog 110 1 := ⟨by kernel_rfl⟩
instance : TyB Tryz.prog 110 24 := ⟨by kernel_rfl⟩
instance : Agg Tryz.prog 110 false := ⟨by kernel_rfl⟩
instance : TyU Tryz.prog 110 (.slice 113) := ⟨Tryz.underlying110⟩
instance : TyZ Tryz.prog 110 (.slice none 0 0) := ⟨by kernel_rfl⟩
instance : TySz Tryz.prog 111 1 := ⟨by kernel_rfl⟩
instance : TyB Tryz.prog 111 8 := ⟨by kernel_rfl⟩
instance : Agg Tryz.prog 111 false := ⟨by kernel_rfl⟩
instance : TyU Tryz.prog 111 (.int .i64) := ⟨Tryz.underlying111⟩
instance : TyZ Tryz.prog 111 (.int .i64 0) := ⟨by kernel_rfl⟩
instance : TySz Tryz.prog 112 4 := ⟨by kernel_rfl⟩
instance : TyB Tryz.prog 112 32 := ⟨by kernel_rfl⟩
instance : Agg Tryz.prog 112 true := ⟨by kernel_rfl⟩
instance : TyZ Tryz.prog 112 (.agg #[.int .i64 0, .int .i64 0, .int .i32 0, .int .i64 0]) := ⟨by kernel_rfl⟩
instance : NotI Tryz.prog 112 := ⟨by kernel_rfl⟩
instance : TyF Tryz.prog 112 0 0 3 := ⟨⟨_, _, Tryz.underlying112, rfl, rfl, rfl⟩⟩
instance : TyF Tryz.prog 112 1 1 3 := ⟨⟨_, _, Tryz.underlying112, rfl, rfl, rfl⟩⟩
instance : TyF Tryz.prog 112 2 2 21 := ⟨⟨_, _, Tryz.underlying112, rfl, rfl, rfl⟩⟩
instance : TyF Tryz.prog 112 3 3 111 := ⟨⟨_, _, Tryz.underlying112, rfl, rfl, rfl⟩⟩
instance : TyPl Tryz.prog 112 [(0, 1), (1, 1), (2, 1), (3, 1)] := ⟨⟨_, Tryz.underlying112, by kernel_rfl⟩⟩
instance : TySz Tryz.prog 113 4 := ⟨by kernel_rfl⟩
instance : TyB Tryz.prog 113 32 := ⟨by kernel_rfl⟩
instance : Agg Tryz.prog 113 true := ⟨by kernel_rfl⟩
instance : TyZ Tryz.prog 113 (.agg #[.int .i64 0, .int .i64 0, .int .i32 0, .int .i64 0]) := ⟨by kernel_rfl⟩
instance : NotI Tryz.prog 113 := ⟨by kernel_rfl⟩
instance : TyF Tryz.prog 113 0 0 3 := ⟨⟨_, _, Tryz.underlying113, rfl, rfl, rfl⟩⟩
instance : TyF Tryz.prog 113 1 1 3 := ⟨⟨_, _, Tryz.underlying113, rfl, rfl, rfl⟩⟩
instance : TyF Tryz.prog 113 2 2 21 := ⟨⟨_, _, Tryz.underlying113, rfl, rfl, rfl⟩⟩
instance : TyF Tryz.prog 113 3 3 111 := ⟨⟨_, _, Tryz.underlying113, rfl, rfl, rfl⟩⟩
instance : TyPl Tryz.prog 113 [(0, 1), (1, 1), (2, 1), (3, 1)] := ⟨⟨_, Tryz.underlying113, by kernel_rfl⟩⟩
instance : TySz Tryz.prog 114 1 := ⟨by kernel_rfl⟩
instance : TyB Tryz.prog 114 8 := ⟨by kernel_rfl⟩
instance : Agg Tryz.prog 114 false := ⟨by kernel_rfl⟩
instance : TyZ Tryz.prog 114 (.nilFunc) := ⟨by kernel_rfl⟩
instance : TySz Tryz.prog 115 1 := ⟨by kernel_rfl⟩
instance : TyB Tryz.prog 115 8 := ⟨by kernel_rfl⟩
instance : Agg Tryz.prog 115 false := ⟨by kernel_rfl⟩
instance : TyZ Tryz.prog 115 (.nilFunc) := ⟨by kernel_rfl⟩
instance : TySz Tryz.prog 116 1 := ⟨by kernel_rfl⟩
instance : TyB Tryz.prog 116 8 := ⟨by kernel_rfl⟩
instance : Agg Tryz.prog 116 false := ⟨by kernel_rfl⟩
instance : TyU Tryz.prog 116 (.pointer 53) := ⟨Tryz.underlying116⟩
instance : TyZ Tryz.prog 116 (.pointer none) := ⟨by kernel_rfl⟩
instance : TySz Tryz.prog 117 13 := ⟨by kernel_rfl⟩
instance : TyB Tryz.prog 117 104 := ⟨by kernel_rfl⟩
instance : Agg Tryz.prog 117 true := ⟨by kernel_rfl⟩
instance : TyZ Tryz.prog 117 (.agg #[.int .i64 0, .int .i32 0, .int .i64 0, .int .i64 0, .slice none 0 0, .int .i32 0, .int .i32 0, .int .i32 0, .int .i32 0, .int .i64 0, .int .i64 0, .int .u32 0, .int .i64 0]) := ⟨by kernel_rfl⟩
instance : NotI Tryz.prog 117 := ⟨by kernel_rfl⟩
instance : TyF Tryz.prog 117 0 0 3 := ⟨⟨_, _, Tryz.underlying117, rfl, rfl, rfl⟩⟩
instance : TyF Tryz.prog 117 1 1 45 := ⟨⟨_, _, Tryz.underlying117, rfl, rfl, rfl⟩⟩
instance : TyPl Tryz.prog 117 [(0, 1), (1, 12)] := ⟨⟨_, Tryz.underlying117, by kernel_rfl⟩⟩
instance : TySz Tryz.prog 118 13 := ⟨by kernel_rfl⟩
instance : TyB Tryz.prog 118 104 := ⟨by kernel_rfl⟩
instance : Agg Tryz.prog 118 true := ⟨by kernel_rfl⟩
instance : TyZ Tryz.prog 118 (.agg #[.int .i64 0, .int .i32 0, .int .i64 0, .int .i64 0, .slice none 0 0, .int .i32 0, .int .i32 0, .int .i32 0, .int .i32 0, .int .i64 0, .int .i64 0, .int .u32 0, .int .i64 0]) := ⟨by kernel_rfl⟩
instance : NotI Tryz.prog 118 := ⟨by kernel_rfl⟩
instance : TyF Tryz.prog 118 0 0 3 := ⟨⟨_, _, Tryz.underlying118, rfl, rfl, rfl⟩⟩
instance : TyF Tryz.prog 118 1 1 45 := ⟨⟨_, _, Tryz.underlying118, rfl, rfl, rfl⟩⟩
instance : TyPl Tryz.prog 118 [(0, 1), (1, 12)] := ⟨⟨_, Tryz.underlying118, by kernel_rfl⟩⟩
instance : TySz Tryz.prog 119 1 := ⟨by kernel_rfl⟩
instance : TyB Tryz.prog 119 8 := ⟨by kernel_rfl⟩
instance : Agg Tryz.prog 119 false := ⟨by kernel_rfl⟩
instance : TyZ Tryz.prog 119 (.nilFunc) := ⟨by kernel_rfl⟩
instance : TySz Tryz.prog 120 13 := ⟨by kernel_rfl⟩
instance : TyB Tryz.prog 120 104 := ⟨by kernel_rfl⟩
instance : Agg Tryz.prog 120 true := ⟨by kernel_rfl⟩
instance : TyZ Tryz.prog 120 (.agg #[.int .i64 0, .int .i32 0, .int .i64 0, .int .i64 0, .slice none 0 0, .int .i32 0, .int .i32 0, .int .i32 0, .int .i32 0, .int .i64 0, .int .i64 0, .int .u32 0, .int .i64 0]) := ⟨by kernel_rfl⟩
instance : NotI Tryz.prog 120 := ⟨by kernel_rfl⟩
instance : TyF Tryz.prog 120 0 0 3 := ⟨⟨_, _, Tryz.underlying120, rfl, rfl, rfl⟩⟩
instance : TyF Tryz.prog 120 1 1 45 := ⟨⟨_, _, Tryz.underlying120, rfl, rfl, rfl⟩⟩
instance : TyPl Tryz.prog 120 [(0, 1), (1, 12)] := ⟨⟨_, Tryz.underlying120, by kernel_rfl⟩⟩
instance : TySz Tryz.prog 122 1 := ⟨by kernel_rfl⟩
instance : TyB Tryz.prog 122 8 := ⟨by kernel_rfl⟩
instance : Agg Tryz.prog 122 false := ⟨by kernel_rfl⟩
instance : TyZ Tryz.prog 122 (.nilFunc) := ⟨by kernel_rfl⟩
instance : TySz Tryz.prog 123 1 := ⟨by kernel_rfl⟩
instance : TyB Tryz.prog 123 8 := ⟨by kernel_rfl⟩
instance : Agg Tryz.prog 123 false := ⟨by kernel_rfl⟩
instance : TyZ Tryz.prog 123 (.nilFunc) := ⟨by kernel_rfl⟩
instance : TySz Tryz.prog 125 1 := ⟨by kernel_rfl⟩
instance : TyB Tryz.prog 125 8 := ⟨by kernel_rfl⟩
instance : Agg Tryz.prog 125 false := ⟨by kernel_rfl⟩
instance : TyZ Tryz.prog 125 (.nilFunc) := ⟨by kernel_rfl⟩
instance : TySz Tryz.prog 126 1 := ⟨by kernel_rfl⟩
instance : TyB Tryz.prog 126 8 := ⟨by kernel_rfl⟩
instance : Agg Tryz.prog 126 false := ⟨by kernel_rfl⟩
instance : TyZ Tryz.prog 126 (.nilFunc) := ⟨by kernel_rfl⟩
instance : TySz Tryz.prog 127 1 := ⟨by kernel_rfl⟩
instance : TyB Tryz.prog 127 8 := ⟨by kernel_rfl⟩
instance : Agg Tryz.prog 127 false := ⟨by kernel_rfl⟩
instance : TyZ Tryz.prog 127 (.nilFunc) := ⟨by kernel_rfl⟩
instance : TySz Tryz.prog 128 1 := ⟨by kernel_rfl⟩
instance : TyB Tryz.prog 128 8 := ⟨by kernel_rfl⟩
instance : Agg Tryz.prog 128 false := ⟨by kernel_rfl⟩
instance : TyZ Tryz.prog 128 (.nilFunc) := ⟨by kernel_rfl⟩
instance : TySz Tryz.prog 129 1 := ⟨by kernel_rfl⟩
instance : TyB Tryz.prog 129 8 := ⟨by kernel_rfl⟩
instance : Agg Tryz.prog 129 false := ⟨by kernel_rfl⟩
instance : TyZ Tryz.prog 129 (.nilFunc) := ⟨by kernel_rfl⟩
instance : TySz Tryz.prog 130 3 := ⟨by kernel_rfl⟩
instance : TyB Tryz.prog 130 24 := ⟨by kernel_rfl⟩
instance : Agg Tryz.prog 130 true := ⟨by kernel_rfl⟩
instance : TyZ Tryz.prog 130 (.agg #[.int .i64 0, .int .i32 0, .int .i64 0]) := ⟨by kernel_rfl⟩
instance : NotI Tryz.prog 130 := ⟨by kernel_rfl⟩
instance : TyF Tryz.prog 130 0 0 3 := ⟨⟨_, _, Tryz.underlying130, rfl, rfl, rfl⟩⟩
instance : TyF Tryz.prog 130 1 1 21 := ⟨⟨_, _, Tryz.underlying130, rfl, rfl, rfl⟩⟩
instance : TyF Tryz.prog 130 2 2 111 := ⟨⟨_, _, Tryz.underlying130, rfl, rfl, rfl⟩⟩
instance : TyPl Tryz.prog 130 [(0, 1), (1, 1), (2, 1)] := ⟨⟨_, Tryz.underlying130, by kernel_rfl⟩⟩
instance : TySz Tryz.prog 131 3 := ⟨by kernel_rfl⟩
instance : TyB Tryz.prog 131 24 := ⟨by kernel_rfl⟩
instance : Agg Tryz.prog 131 true := ⟨by kernel_rfl⟩
instance : TyZ Tryz.prog 131 (.agg #[.int .i64 0, .int .i32 0, .int .i64 0]) := ⟨by kernel_rfl⟩
instance : NotI Tryz.prog 131 := ⟨by kernel_rfl⟩
instance : TyF Tryz.prog 131 0 0 3 := ⟨⟨_, _, Tryz.underlying131, rfl, rfl, rfl⟩⟩
instance : TyF Tryz.prog 131 1 1 21 := ⟨⟨_, _, Tryz.underlying131, rfl, rfl, rfl⟩⟩
instance : TyF Tryz.prog 131 2 2 111 := ⟨⟨_, _, Tryz.underlying131, rfl, rfl, rfl⟩⟩
instance : TyPl Tryz.prog 131 [(0, 1), (1, 1), (2, 1)] := ⟨⟨_, Tryz.underlying131, by kernel_rfl⟩⟩
instance : TySz Tryz.prog 132 1 := ⟨by kernel_rfl⟩
instance : TyB Tryz.prog 132 8 := ⟨by kernel_rfl⟩
instance : Agg Tryz.prog 132 false := ⟨by kernel_rfl⟩
instance : TyZ Tryz.prog 132 (.nilFunc) := ⟨by kernel_rfl⟩
instance : TySz Tryz.prog 134 1 := ⟨by kernel_rfl⟩
instance : TyB Tryz.prog 134 8 := ⟨by kernel_rfl⟩
instance : Agg Tryz.prog 134 false := ⟨by kernel_rfl⟩
instance : TyZ Tryz.prog 134 (.nilFunc) := ⟨by kernel_rfl⟩
instance : TySz Tryz.prog 135 1 := ⟨by kernel_rfl⟩
instance : TyB Tryz.prog 135 8 := ⟨by kernel_rfl⟩
instance : Agg Tryz.prog 135 false := ⟨by kernel_rfl⟩
instance : TyZ Tryz.prog 135 (.nilFunc) := ⟨by kernel_rfl⟩
instance : TySz Tryz.prog 136 1 := ⟨by kernel_rfl⟩
instance : TyB Tryz.prog 136 8 := ⟨by kernel_rfl⟩
instance : Agg Tryz.prog 136 false := ⟨by kernel_rfl⟩
instance : TyZ Tryz.prog 136 (.nilFunc) := ⟨by kernel_rfl⟩
instance : TySz Tryz.prog 137 1 := ⟨by kernel_rfl⟩
instance : TyB Tryz.prog 137 8 := ⟨by kernel_rfl⟩
instance : Agg Tryz.prog 137 false := ⟨by kernel_rfl⟩
instance : TyZ Tryz.prog 137 (.nilFunc) := ⟨by kernel_rfl⟩
instance : TySz Tryz.prog 138 1 := ⟨by kernel_rfl⟩
instance : TyB Tryz.prog 138 8 := ⟨by kernel_rfl⟩
instance : Agg Tryz.prog 138 false := ⟨by kernel_rfl⟩
instance : TyZ Tryz.prog 138 (.nilFunc) := ⟨by kernel_rfl⟩
instance : TySz Tryz.prog 139 1 := ⟨by kernel_rfl⟩
instance : TyB Tryz.prog 139 8 := ⟨by kernel_rfl⟩
instance : Agg Tryz.prog 139 false := ⟨by kernel_rfl⟩
instance : TyZ Tryz.prog 139 (.nilFunc) := ⟨by kernel_rfl⟩
instance : TySz Tryz.prog 140 2 := ⟨by kernel_rfl⟩
instance : TyB Tryz.prog 140 32 := ⟨by kernel_rfl⟩
instance : Agg Tryz.prog 140 true := ⟨by kernel_rfl⟩
instance : TyZ Tryz.prog 140 (.agg #[.int .i64 0, .slice none 0 0]) := ⟨by kernel_rfl⟩
instance : NotI Tryz.prog 140 := ⟨by kernel_rfl⟩
instance : TyF Tryz.prog 140 0 0 3 := ⟨⟨_, _, Tryz.underlying140, rfl, rfl, rfl⟩⟩
instance : TyF Tryz.prog 140 1 1 49 := ⟨⟨_, _, Tryz.underlying140, rfl, rfl, rfl⟩⟩
instance : TyPl Tryz.prog 140 [(0, 1), (1, 1)] := ⟨⟨_, Tryz.underlying140, by kernel_rfl⟩⟩
instance : TySz Tryz.prog 141 2 := ⟨by kernel_rfl⟩
instance : TyB Tryz.prog 141 32 := ⟨by kernel_rfl⟩
instance : Agg Tryz.prog 141 true := ⟨by kernel_rfl⟩
instance : TyZ Tryz.prog 141 (.agg #[.int .i64 0, .slice none 0 0]) := ⟨by kernel_rfl⟩
instance : NotI Tryz.prog 141 := ⟨by kernel_rfl⟩
instance : TyF Tryz.prog 141 0 0 3 := ⟨⟨_, _, Tryz.underlying141, rfl, rfl, rfl⟩⟩
instance : TyF Tryz.prog 141 1 1 49 := ⟨⟨_, _, Tryz.underlying141, rfl, rfl, rfl⟩⟩
instance : TyPl Tryz.prog 141 [(0, 1), (1, 1)] := ⟨⟨_, Tryz.underlying141, by kernel_rfl⟩⟩
instance : TySz Tryz.prog 142 1 := ⟨by kernel_rfl⟩
instance : TyB Tryz.prog 142 8 := ⟨by kernel_rfl⟩
instance : Agg Tryz.prog 142 false := ⟨by kernel_rfl⟩
instance : TyZ Tryz.prog 142 (.nilFunc) := ⟨by kernel_rfl⟩
instance : TySz Tryz.prog 143 1 := ⟨by kernel_rfl⟩
instance : TyB Tryz.prog 143 8 := ⟨by kernel_rfl⟩
instance : Agg Tryz.prog 143 false := ⟨by kernel_rfl⟩
instance : TyZ Tryz.prog 143 (.nilFunc) := ⟨by kernel_rfl⟩
instance : TySz Tryz.prog 144 1 := ⟨by kernel_rfl⟩
instance : TyB Tryz.prog 144 8 := ⟨by kernel_rfl⟩
instance : Agg Tryz.prog 144 false := ⟨by kernel_rfl⟩
instance : TyZ Tryz.prog 144 (.nilFunc) := ⟨by kernel_rfl⟩
instance : TySz Tryz.prog 145 1 := ⟨by kernel_rfl⟩
instance : TyB Tryz.prog 145 24 := ⟨by kernel_rfl⟩
instance : Agg Tryz.prog 145 false := ⟨by kernel_rfl⟩
instance : TyU Tryz.prog 145 (.slice 167) := ⟨Tryz.underlying145⟩
instance : TyZ Tryz.prog 145 (.slice none 0 0) := ⟨by kernel_rfl⟩
instance : TySz Tryz.prog 146 1 := ⟨by kernel_rfl⟩
instance : TyB Tryz.prog 146 24 := ⟨by kernel_rfl⟩
instance : Agg Tryz.prog 146 false := ⟨by kernel_rfl⟩
instance : TyU Tryz.prog 146 (.slice 167) := ⟨Tryz.underlying146⟩
instance : TyZ Tryz.prog 146 (.slice none 0 0) := ⟨by kernel_rfl⟩
instance : TySz Tryz.prog 147 2 := ⟨by kernel_rfl⟩
instance : TyB Tryz.prog 147 32 := ⟨by kernel_rfl⟩
instance : Agg Tryz.prog 147 true := ⟨by kernel_rfl⟩
instance : TyZ Tryz.prog 147 (.agg #[.slice none 0 0, .int .i64 0]) := ⟨by kernel_rfl⟩
instance : NotI Tryz.prog 147 := ⟨by kernel_rfl⟩
instance : TyF Tryz.prog 147 0 0 146 := ⟨⟨_, _, Tryz.underlying147, rfl, rfl, rfl⟩⟩
instance : TyF Tryz.prog 147 1 1 3 := ⟨⟨_, _, Tryz.underlying147, rfl, rfl, rfl⟩⟩
instance : TyPl Tryz.prog 147 [(0, 1), (1, 1)] := ⟨⟨_, Tryz.underlying147, by kernel_rfl⟩⟩
instance : TySz Tryz.prog 148 2 := ⟨by kernel_rfl⟩
instance : TyB Tryz.prog 148 32 := ⟨by kernel_rfl⟩
instance : Agg Tryz.prog 148 true := ⟨by kernel_rfl⟩
instance : TyZ Tryz.prog 148 (.agg #[.slice none 0 0, .int .i64 0]) := ⟨by kernel_rfl⟩
instance : NotI Tryz.prog 148 := ⟨by kernel_rfl⟩
instance : TyF Tryz.prog 148 0 0 146 := ⟨⟨_, _, Tryz.underlying148, rfl, rfl, rfl⟩⟩
instance : TyF Tryz.prog 148 1 1 3 := ⟨⟨_, _, Tryz.underlying148, rfl, rfl, rfl⟩⟩
instance : TyPl Tryz.prog 148 [(0, 1), (1, 1)] := ⟨⟨_, Tryz.underlying148, by kernel_rfl⟩⟩
instance : TySz Tryz.prog 149 1 := ⟨by kernel_rfl⟩
instance : TyB Tryz.prog 149 24 := ⟨by kernel_rfl⟩
instance : Agg Tryz.prog 149 false := ⟨by kernel_rfl⟩
instance : TyU Tryz.prog 149 (.slice 168) := ⟨Tryz.underlying149⟩
instance : TyZ Tryz.prog 149 (.slice none 0 0) := ⟨by kernel_rfl⟩
instance : TySz Tryz.prog 150 1 := ⟨by kernel_rfl⟩
instance : TyB Tryz.prog 150 24 := ⟨by kernel_rfl⟩
instance : Agg Tryz.prog 150 true := ⟨by kernel_rfl⟩
instance : TyZ Tryz.prog 150 (.agg #[.slice none 0 0]) := ⟨by kernel_rfl⟩
instance : NotI Tryz.prog 150 := ⟨by kernel_rfl⟩
instance : TyF Tryz.prog 150 0 0 149 := ⟨⟨_, _, Tryz.underlying150, rfl, rfl, rfl⟩⟩
instance : TyPl Tryz.prog 150 [(0, 1)] := ⟨⟨_, Tryz.underlying150, by kernel_rfl⟩⟩
instance : TySz Tryz.prog 151 1 := ⟨by kernel_rfl⟩
instance : TyB Tryz.prog 151 24 := ⟨by kernel_rfl⟩
instance : Agg Tryz.prog 151 true := ⟨by kernel_rfl⟩
instance : TyZ Tryz.prog 151 (.agg #[.slice none 0 0]) := ⟨by kernel_rfl⟩
instance : NotI Tryz.prog 151 := ⟨by kernel_rfl⟩
instance : TyF Tryz.prog 151 0 0 149 := ⟨⟨_, _, Tryz.underlying151, rfl, rfl, rfl⟩⟩
instance : TyPl Tryz.prog 151 [(0, 1)] := ⟨⟨_, Tryz.underlying151, by kernel_rfl⟩⟩
instance : TySz Tryz.prog 152 1 := ⟨by kernel_rfl⟩
instance : TyB Tryz.prog 152 8 := ⟨by kernel_rfl⟩
instance : Agg Tryz.prog 152 false := ⟨by kernel_rfl⟩
instance : TyZ Tryz.prog 152 (.nilFunc) := ⟨by kernel_rfl⟩
instance : TySz Tryz.prog 153 1 := ⟨by kernel_rfl⟩
instance : TyB Tryz.prog 153 8 := ⟨by kernel_rfl⟩
instance : Agg Tryz.prog 153 false := ⟨by kernel_rfl⟩
instance : TyU Tryz.prog 153 (.pointer 181) := ⟨Tryz.underlying153⟩
instance : TyZ Tryz.prog 153 (.pointer none) := ⟨by kernel_rfl⟩
instance : TySz Tryz.prog 154 1 := ⟨by kernel_rfl⟩
instance : TyB Tryz.prog 154 8 := ⟨by kernel_rfl⟩
instance : Agg Tryz.prog 154 false := ⟨by kernel_rfl⟩
instance : TyZ Tryz.prog 154 (.nilFunc) := ⟨by kernel_rfl⟩
instance : TySz Tryz.prog 155 2 := ⟨by kernel_rfl⟩
instance : TyB Tryz.prog 155 32 := ⟨by kernel_rfl⟩
instance : Agg Tryz.prog 155 true := ⟨by kernel_rfl⟩
instance : TyZ Tryz.prog 155 (.agg #[.slice none 0 0, .nilFunc]) := ⟨by kernel_rfl⟩
instance : NotI Tryz.prog 155 := ⟨by kernel_rfl⟩
instance : TyF Tryz.prog 155 0 0 25 := ⟨⟨_, _, Tryz.underlying155, rfl, rfl, rfl⟩⟩
instance : TyF Tryz.prog 155 1 1 83 := ⟨⟨_, _, Tryz.underlying155, rfl, rfl, rfl⟩⟩
instance : TyPl Tryz.prog 155 [(0, 1), (1, 1)] := ⟨⟨_, Tryz.underlying155, by kernel_rfl⟩⟩
instance : TySz Tryz.prog 156 2 := ⟨by kernel_rfl⟩
instance : TyB Tryz.prog 156 32 := ⟨by kernel_rfl⟩
instance : Agg Tryz.prog 156 true := ⟨by kernel_rfl⟩
instance : TyZ Tryz.prog 156 (.agg #[.slice none 0 0, .nilFunc]) := ⟨by kernel_rfl⟩
instance : NotI Tryz.prog 156 := ⟨by kernel_rfl⟩
instance : TyF Tryz.prog 156 0 0 25 := ⟨⟨_, _, Tryz.underlying156, rfl, rfl, rfl⟩⟩
instance : TyF Tryz.prog 156 1 1 83 := ⟨⟨_, _, Tryz.underlying156, rfl, rfl, rfl⟩⟩
instance : TyPl Tryz.prog 156 [(0, 1), (1, 1)] := ⟨⟨_, Tryz.underlying156, by kernel_rfl⟩⟩
instance : TySz Tryz.prog 157 3 := ⟨by kernel_rfl⟩
instance : TyB Tryz.prog 157 40 := ⟨by kernel_rfl⟩
instance : Agg Tryz.prog 157 true := ⟨by kernel_rfl⟩
instance : TyZ Tryz.prog 157 (.agg #[.slice none 0 0, .int .i64 0, .int .i64 0]) := ⟨by kernel_rfl⟩
instance : NotI Tryz.prog 157 := ⟨by kernel_rfl⟩
instance : TyF Tryz.prog 157 0 0 49 := ⟨⟨_, _, Tryz.underlying157, rfl, rfl, rfl⟩⟩
instance : TyF Tryz.prog 157 1 1 3 := ⟨⟨_, _, Tryz.underlying157, rfl, rfl, rfl⟩⟩
instance : TyF Tryz.prog 157 2 2 3 := ⟨⟨_, _, Tryz.underlying157, rfl, rfl, rfl⟩⟩
instance : TyPl Tryz.prog 157 [(0, 1), (1, 1), (2, 1)] := ⟨⟨_, Tryz.underlying157, by kernel_rfl⟩⟩
instance : TySz Tryz.prog 158 3 := ⟨by kernel_rfl⟩
instance : TyB Tryz.prog 158 40 := ⟨by kernel_rfl⟩
instance : Agg Tryz.prog 158 true := ⟨by kernel_rfl⟩
instance : TyZ Tryz.prog 158 (.agg #[.slice none 0 0, .int .i64 0, .int .i64 0]) := ⟨by kernel_rfl⟩
instance : NotI Tryz.prog 158 := ⟨by kernel_rfl⟩
instance : TyF Tryz.prog 158 0 0 49 := ⟨⟨_, _, Tryz.underlying158, rfl, rfl, rfl⟩⟩
instance : TyF Tryz.prog 158 1 1 3 := ⟨⟨_, _, Tryz.underlying158, rfl, rfl, rfl⟩⟩
instance : TyF Tryz.prog 158 2 2 3 := ⟨⟨_, _, Tryz.underlying158, rfl, rfl, rfl⟩⟩
instance : TyPl Tryz.prog 158 [(0, 1), (1, 1), (2, 1)] := ⟨⟨_, Tryz.underlying158, by kernel_rfl⟩⟩
instance : TySz Tryz.prog 159 2 := ⟨by kernel_rfl⟩
instance : TyB Tryz.prog 159 32 := ⟨by kernel_rfl⟩
instance : Agg Tryz.prog 159 true := ⟨by kernel_rfl⟩
instance : TyZ Tryz.prog 159 (.agg #[.slice none 0 0, .int .u64 0]) := ⟨by kernel_rfl⟩
instance : NotI Tryz.prog 159 := ⟨by kernel_rfl⟩
instance : TyF Tryz.prog 159 0 0 25 := ⟨⟨_, _, Tryz.underlying159, rfl, rfl, rfl⟩⟩
instance : TyF Tryz.prog 159 1 1 26 := ⟨⟨_, _, Tryz.underlying159, rfl, rfl, rfl⟩⟩
instance : TyPl Tryz.prog 159 [(0, 1), (1, 1)] := ⟨⟨_, Tryz.underlying159, by kernel_rfl⟩⟩
instance : TySz Tryz.prog 160 2 := ⟨by kernel_rfl⟩
instance : TyB Tryz.prog 160 32 := ⟨by kernel_rfl⟩
instance : Agg Tryz.prog 160 true := ⟨by kernel_rfl⟩
instance : TyZ Tryz.prog 160 (.agg #[.slice none 0 0, .int .u64 0]) := ⟨by kernel_rfl⟩
instance : NotI Tryz.prog 160 := ⟨by kernel_rfl⟩
instance : TyF Tryz.prog 160 0 0 25 := ⟨⟨_, _, Tryz.underlying160, rfl, rfl, rfl⟩⟩
instance : TyF Tryz.prog 160 1 1 26 := ⟨⟨_, _, Tryz.underlying160, rfl, rfl, rfl⟩⟩
instance : TyPl Tryz.prog 160 [(0, 1), (1, 1)] := ⟨⟨_, Tryz.underlying160, by kernel_rfl⟩⟩
instance : TySz Tryz.prog 161 1 := ⟨by kernel_rfl⟩
instance : TyB Tryz.prog 161 8 := ⟨by kernel_rfl⟩
instance : Agg Tryz.prog 161 false := ⟨by kernel_rfl⟩
instance : TyU Tryz.prog 161 (.pointer 45) := ⟨Tryz.underlying161⟩
instance : TyZ Tryz.prog 161 (.pointer none) := ⟨by kernel_rfl⟩
instance : TySz Tryz.prog 162 1 := ⟨by kernel_rfl⟩
instance : TyB Tryz.prog 162 8 := ⟨by kernel_rfl⟩
instance : Agg Tryz.prog 162 false := ⟨by kernel_rfl⟩
instance : TyZ Tryz.prog 162 (.nilFunc) := ⟨by kernel_rfl⟩
instance : TySz Tryz.prog 163 1 := ⟨by kernel_rfl⟩
instance : TyB Tryz.prog 163 8 := ⟨by kernel_rfl⟩
instance : Agg Tryz.prog 163 false := ⟨by kernel_rfl⟩
instance : TyZ Tryz.prog 163 (.nilFunc) := ⟨by kernel_rfl⟩
instance : TySz Tryz.prog 164 1 := ⟨by kernel_rfl⟩
instance : TyB Tryz.prog 164 8 := ⟨by kernel_rfl⟩
instance : Agg Tryz.prog 164 false := ⟨by kernel_rfl⟩
instance : TyU Tryz.prog 164 (.pointer 146) := ⟨Tryz.underlying164⟩
instance : TyZ Tryz.prog 164 (.pointer none) := ⟨by kernel_rfl⟩
instance : TySz Tryz.prog 165 1 := ⟨by kernel_rfl⟩
instance : TyB Tryz.prog 165 8 := ⟨by kernel_rfl⟩
instance : Agg Tryz.prog 165 false := ⟨by kernel_rfl⟩
instance : TyZ Tryz.prog 165 (.nilFunc) := ⟨by kernel_rfl⟩
instance : TySz Tryz.prog 166 14 := ⟨by kernel_rfl⟩
instance : TyB Tryz.prog 166 112 := ⟨by kernel_rfl⟩
instance : Agg Tryz.prog 166 true := ⟨by kernel_rfl⟩
instance : TyZ Tryz.prog 166 (.agg #[.int .i64 0, .int .i32 0, .int .i64 0, .int .i64 0, .slice none 0 0, .int .i32 0, .int .i32 0, .int .i32 0, .int .i32 0, .int .i64 0, .int .i64 0, .int .u32 0, .int .i64 0, .int .i64 0]) := ⟨by kernel_rfl⟩
instance : NotI Tryz.prog 166 := ⟨by kernel_rfl⟩
instance : TyF Tryz.prog 166 0 0 120 := ⟨⟨_, _, Tryz.underlying166, rfl, rfl, rfl⟩⟩
instance : TyF Tryz.prog 166 1 13 3 := ⟨⟨_, _, Tryz.underlying166, rfl, rfl, rfl⟩⟩
instance : TyPl Tryz.prog 166 [(0, 13), (13, 1)] := ⟨⟨_, Tryz.underlying166, by kernel_rfl⟩⟩
instance : TySz Tryz.prog 167 14 := ⟨by kernel_rfl⟩
instance : TyB Tryz.prog 167 112 := ⟨by kernel_rfl⟩
instance : Agg Tryz.prog 167 true := ⟨by kernel_rfl⟩
instance : TyZ Tryz.prog 167 (.agg #[.int .i64 0, .int .i32 0, .int .i64 0, .int .i64 0, .slice none 0 0, .int .i32 0, .int .i32 0, .int .i32 0, .int .i32 0, .int .i64 0, .int .i64 0, .int .u32 0, .int .i64 0, .int .i64 0]) := ⟨by kernel_rfl⟩
instance : NotI Tryz.prog 167 := ⟨by kernel_rfl⟩
instance : TyF Tryz.prog 167 0 0 120 := ⟨⟨_, _, Tryz.underlying167, rfl, rfl, rfl⟩⟩
instance : TyF Tryz.prog 167 1 13 3 := ⟨⟨_, _, Tryz.underlying167, rfl, rfl, rfl⟩⟩
instance : TyPl Tryz.prog 167 [(0, 13), (13, 1)] := ⟨⟨_, Tryz.underlying167, by kernel_rfl⟩⟩
instance : TySz Tryz.prog 168 13 := ⟨by kernel_rfl⟩
instance : TyB Tryz.prog 168 104 := ⟨by kernel_rfl⟩
instance : Agg Tryz.prog 168 true := ⟨by kernel_rfl⟩
instance : TyZ Tryz.prog 168 (.agg #[.int .i32 0, .int .i64 0, .int .i64 0, .slice none 0 0, .int .i32 0, .int .i32 0, .int .i32 0, .int .i32 0, .int .i64 0, .int .i64 0, .int .u32 0, .int .i64 0, .int .i32 0]) := ⟨by kernel_rfl⟩
instance : NotI Tryz.prog 168 := ⟨by kernel_rfl⟩
instance : TyF Tryz.prog 168 0 0 45 := ⟨⟨_, _, Tryz.underlying168, rfl, rfl, rfl⟩⟩
instance : TyF Tryz.prog 168 1 12 21 := ⟨⟨_, _, Tryz.underlying168, rfl, rfl, rfl⟩⟩
instance : TyPl Tryz.prog 168 [(0, 12), (12, 1)] := ⟨⟨_, Tryz.underlying168, by kernel_rfl⟩⟩
instance : TySz Tryz.prog 169 1 := ⟨by kernel_rfl⟩
instance : TyB Tryz.prog 169 8 := ⟨by kernel_rfl⟩
instance : Agg Tryz.prog 169 false := ⟨by kernel_rfl⟩
instance : TyZ Tryz.prog 169 (.nilFunc) := ⟨by kernel_rfl⟩
instance : TySz Tryz.prog 170 1 := ⟨by kernel_rfl⟩
instance : TyB Tryz.prog 170 8 := ⟨by kernel_rfl⟩
instance : Agg Tryz.prog 170 false := ⟨by kernel_rfl⟩
instance : TyZ Tryz.prog 170 (.nilFunc) := ⟨by kernel_rfl⟩
instance : TySz Tryz.prog 171 1 := ⟨by kernel_rfl⟩
instance : TyB Tryz.prog 171 8 := ⟨by kernel_rfl⟩
instance : Agg Tryz.prog 171 false := ⟨by kernel_rfl⟩
instance : TyU Tryz.prog 171 (.pointer 113) := ⟨Tryz.underlying171⟩
instance : TyZ Tryz.prog 171 (.pointer none) := ⟨by kernel_rfl⟩
instance : TySz Tryz.prog 172 1 := ⟨by kernel_rfl⟩
instance : TyB Tryz.prog 172 8 := ⟨by kernel_rfl⟩
instance : Agg Tryz.prog 172 false := ⟨by kernel_rfl⟩
instance : TyZ Tryz.prog 172 (.nilFunc) := ⟨by kernel_rfl⟩
instance : TySz Tryz.prog 174 1 := ⟨by kernel_rfl⟩
instance : TyB Tryz.prog 174 8 := ⟨by kernel_rfl⟩
instance : Agg Tryz.prog 174 false := ⟨by kernel_rfl⟩
instance : TyZ Tryz.prog 174 (.nilFunc) := ⟨by kernel_rfl⟩
instance : TySz Tryz.prog 175 1 := ⟨by kernel_rfl⟩
instance : TyB Tryz.prog 175 8 := ⟨by kernel_rfl⟩
instance : Agg Tryz.prog 175 false := ⟨by kernel_rfl⟩
instance : TyZ Tryz.prog 175 (.nilFunc) := ⟨by kernel_rfl⟩
instance : TySz Tryz.prog 176 1 := ⟨by kernel_rfl⟩
instance : TyB Tryz.prog 176 8 := ⟨by kernel_rfl⟩
instance : Agg Tryz.prog 176 false := ⟨by kernel_rfl⟩
instance : TyZ Tryz.prog 176 (.nilFunc) := ⟨by kernel_rfl⟩
instance : TySz Tryz.prog 177 1 := ⟨by kernel_rfl⟩
instance : TyB Tryz.prog 177 8 := ⟨by kernel_rfl⟩
instance : Agg Tryz.prog 177 false := ⟨by kernel_rfl⟩
instance : TyU Tryz.prog 177 (.pointer 56) := ⟨Tryz.underlying177⟩
instance : TyZ Tryz.prog 177 (.pointer none) := ⟨by kernel_rfl⟩
instance : TySz Tryz.prog 178 1 := ⟨by kernel_rfl⟩
instance : TyB Tryz.prog 178 8 := ⟨by kernel_rfl⟩
instance : Agg Tryz.prog 178 false := ⟨by kernel_rfl⟩
instance : TyZ Tryz.prog 178 (.nilFunc) := ⟨by kernel_rfl⟩
instance : TySz Tryz.prog 179 1 := ⟨by kernel_rfl⟩
instance : TyB Tryz.prog 179 8 := ⟨by kernel_rfl⟩
instance : Agg Tryz.prog 179 false := ⟨by kernel_rfl⟩
instance : TyZ Tryz.prog 179 (.nilFunc) := ⟨by kernel_rfl⟩
instance : TySz Tryz.prog 180 1 := ⟨by kernel_rfl⟩
instance : TyB Tryz.prog 180 8 := ⟨by kernel_rfl⟩
instance : Agg Tryz.prog 180 true := ⟨by kernel_rfl⟩
instance : TyZ Tryz.prog 180 (.agg #[.int .u64 0]) := ⟨by kernel_rfl⟩
instance : NotI Tryz.prog 180 := ⟨by kernel_rfl⟩
instance : TyF Tryz.prog 180 0 0 26 := ⟨⟨_, _, Tryz.underlying180, rfl, rfl, rfl⟩⟩
instance : TyPl Tryz.prog 180 [(0, 1)] := ⟨⟨_, Tryz.underlying180, by kernel_rfl⟩⟩
instance : TySz Tryz.prog 181 1 := ⟨by kernel_rfl⟩
instance : TyB Tryz.prog 181 8 := ⟨by kernel_rfl⟩
instance : Agg Tryz.prog 181 true := ⟨by kernel_rfl⟩
instance : TyZ Tryz.prog 181 (.agg #[.int .u64 0]) := ⟨by kernel_rfl⟩
instance : NotI Tryz.prog 181 := ⟨by kernel_rfl⟩
instance : TyF Tryz.prog 181 0 0 26 := ⟨⟨_, _, Tryz.underlying181, rfl, rfl, rfl⟩⟩
instance : TyPl Tryz.prog 181 [(0, 1)] := ⟨⟨_, Tryz.underlying181, by kernel_rfl⟩⟩
instance : TySz Tryz.prog 182 1 := ⟨by kernel_rfl⟩
instance : TyB Tryz.prog 182 8 := ⟨by kernel_rfl⟩
instance : Agg Tryz.prog 182 false := ⟨by kernel_rfl⟩
instance : TyZ Tryz.prog 182 (.nilFunc) := ⟨by kernel_rfl⟩
instance : TySz Tryz.prog 183 1 := ⟨by kernel_rfl⟩
instance : TyB Tryz.prog 183 16 := ⟨by kernel_rfl⟩
instance : Agg Tryz.prog 183 false := ⟨by kernel_rfl⟩
instance : TyZ Tryz.prog 183 (.nilIface) := ⟨by kernel_rfl⟩
instance : TySz Tryz.prog 184 1 := ⟨by kernel_rfl⟩
instance : TyB Tryz.prog 184 16 := ⟨by kernel_rfl⟩
instance : Agg Tryz.prog 184 false := ⟨by kernel_rfl⟩
instance : TyZ Tryz.prog 184 (.nilIface) := ⟨by kernel_rfl⟩
instance : TySz Tryz.prog 185 1 := ⟨by kernel_rfl⟩
instance : TyB Tryz.prog 185 8 := ⟨by kernel_rfl⟩
instance : Agg Tryz.prog 185 false := ⟨by kernel_rfl⟩
instance : TyZ Tryz.prog 185 (.nilFunc) := ⟨by kernel_rfl⟩
instance : TySz Tryz.prog 186 1 := ⟨by kernel_rfl⟩
instance : TyB Tryz.prog 186 8 := ⟨by kernel_rfl⟩
instance : Agg Tryz.prog 186 false := ⟨by kernel_rfl⟩
instance : TyZ Tryz.prog 186 (.nilFunc) := ⟨by kernel_rfl⟩
instance : TySz Tryz.prog 187 1 := ⟨by kernel_rfl⟩
instance : TyB Tryz.prog 187 8 := ⟨by kernel_rfl⟩
instance : Agg Tryz.prog 187 false := ⟨by kernel_rfl⟩
instance : TyZ Tryz.prog 187 (.nilFunc) := ⟨by kernel_rfl⟩
instance : TySz Tryz.prog 188 1 := ⟨by kernel_rfl⟩
instance : TyB Tryz.prog 188 8 := ⟨by kernel_rfl⟩
instance : Agg Tryz.prog 188 false := ⟨by kernel_rfl⟩
instance : TyZ Tryz.prog 188 (.nilFunc) := ⟨by kernel_rfl⟩
instance : TySz Tryz.prog 189 1 := ⟨by kernel_rfl⟩
instance : TyB Tryz.prog 189 8 := ⟨by kernel_rfl⟩
instance : Agg Tryz.prog 189 false := ⟨by kernel_rfl⟩
instance : TyZ Tryz.prog 189 (.nilFunc) := ⟨by kernel_rfl⟩
instance : TySz Tryz.prog 190 1 := ⟨by kernel_rfl⟩
instance : TyB Tryz.prog 190 8 := ⟨by kernel_rfl⟩
instance : Agg Tryz.prog 190 false := ⟨by kernel_rfl⟩
instance : TyZ Tryz.prog 190 (.nilFunc) := ⟨by kernel_rfl⟩
instance : TySz Tryz.prog 191 1 := ⟨by kernel_rfl⟩
instance : TyB Tryz.prog 191 8 := ⟨by kernel_rfl⟩
instance : Agg Tryz.prog 191 false := ⟨by kernel_rfl⟩
instance : TyZ Tryz.prog 191 (.nilFunc) := ⟨by kernel_rfl⟩
instance : TySz Tryz.prog 192 1 := ⟨by kernel_rfl⟩
instance : TyB Tryz.prog 192 8 := ⟨by kernel_rfl⟩
instance : Agg Tryz.prog 192 false := ⟨by kernel_rfl⟩
instance : TyZ Tryz.prog 192 (.nilFunc) := ⟨by kernel_rfl⟩
instance : TySz Tryz.prog 193 1 := ⟨by kernel_rfl⟩
instance : TyB Tryz.prog 193 8 := ⟨by kernel_rfl⟩
instance : Agg Tryz.prog 193 false := ⟨by kernel_rfl⟩
instance : TyZ Tryz.prog 193 (.nilFunc) := ⟨by kernel_rfl⟩
instance : TySz Tryz.prog 194 1 := ⟨by kernel_rfl⟩
instance : TyB Tryz.prog 194 8 := ⟨by kernel_rfl⟩
instance : Agg Tryz.prog 194 false := ⟨by kernel_rfl⟩
instance : TyZ Tryz.prog 194 (.nilFunc) := ⟨by kernel_rfl⟩
instance : TySz Tryz.prog 195 1 := ⟨by kernel_rfl⟩
instance : TyB Tryz.prog 195 8 := ⟨by kernel_rfl⟩
instance : Agg Tryz.prog 195 false := ⟨by kernel_rfl⟩
instance : TyZ Tryz.prog 195 (.nilFunc) := ⟨by kernel_rfl⟩
instance : TySz Tryz.prog 196 1 := ⟨by kernel_rfl⟩
instance : TyB Tryz.prog 196 8 := ⟨by kernel_rfl⟩
instance : Agg Tryz.prog 196 false := ⟨by kernel_rfl⟩
instance : TyZ Tryz.prog 196 (.nilFunc) := ⟨by kernel_rfl⟩
instance : TySz Tryz.prog 205 1 := ⟨by kernel_rfl⟩
instance : TyB Tryz.prog 205 8 := ⟨by kernel_rfl⟩
instance : Agg Tryz.prog 205 false := ⟨by kernel_rfl⟩
instance : TyU Tryz.prog 205 (.pointer 5) := ⟨Tryz.underlying205⟩
instance : TyZ Tryz.prog 205 (.pointer none) := ⟨by kernel_rfl⟩
instance : TySz Tryz.prog 210 1 := ⟨by kernel_rfl⟩
instance : TyB Tryz.prog 210 8 := ⟨by kernel_rfl⟩
instance : Agg Tryz.prog 210 false := ⟨by kernel_rfl⟩
instance : TyZ Tryz.prog 210 (.nilFunc) := ⟨by kernel_rfl⟩
instance : TySz Tryz.prog 211 1 := ⟨by kernel_rfl⟩
instance : TyB Tryz.prog 211 8 := ⟨by kernel_rfl⟩
instance : Agg Tryz.prog 211 false := ⟨by kernel_rfl⟩
instance : TyZ Tryz.prog 211 (.nilFunc) := ⟨by kernel_rfl⟩
instance : TySz Tryz.prog 212 1 := ⟨by kernel_rfl⟩
instance : TyB Tryz.prog 212 8 := ⟨by kernel_rfl⟩
instance : Agg Tryz.prog 212 false := ⟨by kernel_rfl⟩
instance : TyZ Tryz.prog 212 (.nilFunc) := ⟨by kernel_rfl⟩
instance : TySz Tryz.prog 213 1 := ⟨by kernel_rfl⟩
instance : TyB Tryz.prog 213 8 := ⟨by kernel_rfl⟩
instance : Agg Tryz.prog 213 false := ⟨by kernel_rfl⟩
instance : TyZ Tryz.prog 213 (.nilFunc) := ⟨by kernel_rfl⟩
instance : TySz Tryz.prog 214 1 := ⟨by kernel_rfl⟩
instance : TyB Tryz.prog 214 8 := ⟨by kernel_rfl⟩
instance : Agg Tryz.prog 214 false := ⟨by kernel_rfl⟩
instance : TyZ Tryz.prog 214 (.nilFunc) := ⟨by kernel_rfl⟩
instance : TySz Tryz.prog 215 1 := ⟨by kernel_rfl⟩
instance : TyB Tryz.prog 215 8 := ⟨by kernel_rfl⟩
instance : Agg Tryz.prog 215 false := ⟨by kernel_rfl⟩
instance : TyZ Tryz.prog 215 (.nilFunc) := ⟨by kernel_rfl⟩
instance : Meth Tryz.prog 30 "Burn" 17 true := ⟨by kernel_rfl⟩
instance : Meth Tryz.prog 30 "Come" 14 true := ⟨by kernel_rfl⟩
instance : Meth Tryz.prog 30 "Drop" 31 true := ⟨by kernel_rfl⟩
instance : Meth Tryz.prog 30 "Enter" 19 true := ⟨by kernel_rfl⟩
instance : Meth Tryz.prog 30 "Find" 27 true := ⟨by kernel_rfl⟩
instance : Meth Tryz.prog 30 "Fuel" 76 true := ⟨by kernel_rfl⟩
instance : Meth Tryz.prog 30 "Held" 33 true := ⟨by kernel_rfl⟩
instance : Meth Tryz.prog 30 "Hold" 30 true := ⟨by kernel_rfl⟩
instance : Meth Tryz.prog 30 "Live" 34 true := ⟨by kernel_rfl⟩
instance : Meth Tryz.prog 30 "Push" 12 true := ⟨by kernel_rfl⟩
instance : Meth Tryz.prog 30 "Room" 35 true := ⟨by kernel_rfl⟩
instance : Meth Tryz.prog 30 "Wait" 16 true := ⟨by kernel_rfl⟩
instance : Meth Tryz.prog 30 "Wake" 25 true := ⟨by kernel_rfl⟩
instance : Meth Tryz.prog 30 "confidant/deck.event" 68 true := ⟨by kernel_rfl⟩
instance : Meth Tryz.prog 30 "confidant/deck.has" 47 true := ⟨by kernel_rfl⟩
instance : Meth Tryz.prog 30 "confidant/deck.others" 65 true := ⟨by kernel_rfl⟩
instance : Meth Tryz.prog 30 "confidant/deck.put" 55 true := ⟨by kernel_rfl⟩
instance : Meth Tryz.prog 30 "confidant/deck.stolen" 67 true := ⟨by kernel_rfl⟩
instance : Meth Tryz.prog 32 "Burn" 18 true := ⟨by kernel_rfl⟩
instance : Meth Tryz.prog 32 "Enter" 20 true := ⟨by kernel_rfl⟩
instance : Meth Tryz.prog 32 "Find" 28 true := ⟨by kernel_rfl⟩
instance : Meth Tryz.prog 32 "Live" 77 true := ⟨by kernel_rfl⟩
instance : Meth Tryz.prog 32 "Push" 13 true := ⟨by kernel_rfl⟩
instance : Meth Tryz.prog 32 "Wake" 26 true := ⟨by kernel_rfl⟩
instance : Meth Tryz.prog 32 "confidant/confidantref24.event" 57 true := ⟨by kernel_rfl⟩
instance : Meth Tryz.prog 32 "confidant/confidantref24.home" 58 true := ⟨by kernel_rfl⟩
instance : Meth Tryz.prog 32 "confidant/confidantref24.others" 71 true := ⟨by kernel_rfl⟩
instance : Meth Tryz.prog 32 "confidant/confidantref24.take" 70 true := ⟨by kernel_rfl⟩
instance : Meth Tryz.prog 32 "confidant/confidantref24.worker" 49 true := ⟨by kernel_rfl⟩
instance : Meth Tryz.prog 34 "Get" 107 true := ⟨by kernel_rfl⟩
instance : Meth Tryz.prog 34 "Keep" 23 true := ⟨by kernel_rfl⟩
instance : Meth Tryz.prog 34 "Make" 10 true := ⟨by kernel_rfl⟩
instance : Meth Tryz.prog 34 "confidant/future.at" 91 true := ⟨by kernel_rfl⟩
instance : Meth Tryz.prog 34 "confidant/future.change" 59 true := ⟨by kernel_rfl⟩
instance : Meth Tryz.prog 36 "Get" 92 true := ⟨by kernel_rfl⟩
instance : Meth Tryz.prog 36 "Keep" 24 true := ⟨by kernel_rfl⟩
instance : Meth Tryz.prog 36 "Make" 11 true := ⟨by kernel_rfl⟩
instance : Meth Tryz.prog 36 "confidant/confidantref12.end" 61 true := ⟨by kernel_rfl⟩
instance : Meth Tryz.prog 57 "Below" 98 true := ⟨by kernel_rfl⟩
instance : Meth Tryz.prog 57 "Next" 72 true := ⟨by kernel_rfl⟩
instance : Meth Tryz.prog 86 "Len" 78 true := ⟨by kernel_rfl⟩
instance : Meth Tryz.prog 86 "Pop" 54 true := ⟨by kernel_rfl⟩
instance : Meth Tryz.prog 86 "Push" 51 true := ⟨by kernel_rfl⟩
instance : Meth Tryz.prog 88 "Add" 53 true := ⟨by kernel_rfl⟩
instance : Meth Tryz.prog 88 "Len" 79 true := ⟨by kernel_rfl⟩
instance : Meth Tryz.prog 88 "Look" 62 true := ⟨by kernel_rfl⟩
instance : Meth Tryz.prog 90 "Next" 40 true := ⟨by kernel_rfl⟩
instance : Meth Tryz.prog 96 "Half" 96 true := ⟨by kernel_rfl⟩
instance : Meth Tryz.prog 96 "Len" 66 true := ⟨by kernel_rfl⟩
instance : Meth Tryz.prog 96 "Pop" 64 true := ⟨by kernel_rfl⟩
instance : Meth Tryz.prog 96 "Push" 48 true := ⟨by kernel_rfl⟩
instance : Meth Tryz.prog 96 "Room" 80 true := ⟨by kernel_rfl⟩
instance : Meth Tryz.prog 96 "Steal" 97 true := ⟨by kernel_rfl⟩
instance : Meth Tryz.prog 96 "confidant/ring.at" 86 true := ⟨by kernel_rfl⟩
instance : Meth Tryz.prog 101 "Pop" 69 true := ⟨by kernel_rfl⟩
instance : Meth Tryz.prog 101 "Push" 50 true := ⟨by kernel_rfl⟩
instance : Meth Tryz.prog 101 "Steal" 73 true := ⟨by kernel_rfl⟩
instance : Meth Tryz.prog 116 "Pop" 56 true := ⟨by kernel_rfl⟩
instance : Meth Tryz.prog 116 "Push" 15 true := ⟨by kernel_rfl⟩
instance : Meth Tryz.prog 153 "Below" 84 true := ⟨by kernel_rfl⟩
instance : Meth Tryz.prog 153 "Next" 100 true := ⟨by kernel_rfl⟩
instance : Meth Tryz.prog 164 "Len" 135 false := ⟨by kernel_rfl⟩
instance : Meth Tryz.prog 164 "Less" 136 false := ⟨by kernel_rfl⟩
instance : Meth Tryz.prog 164 "Pop" 145 true := ⟨by kernel_rfl⟩
instance : Meth Tryz.prog 164 "Push" 146 true := ⟨by kernel_rfl⟩
instance : Meth Tryz.prog 164 "Swap" 137 false := ⟨by kernel_rfl⟩
instance : Meth Tryz.prog 177 "Look" 63 true := ⟨by kernel_rfl⟩
instance : HasF Tryz.prog 2 := ⟨by kernel_rfl⟩
instance : HasF Tryz.prog 3 := ⟨by kernel_rfl⟩
instance : HasF Tryz.prog 4 := ⟨by kernel_rfl⟩
instance : HasF Tryz.prog 5 := ⟨by kernel_rfl⟩
instance : HasF Tryz.prog 6 := ⟨by kernel_rfl⟩
instance : HasF Tryz.prog 7 := ⟨by kernel_rfl⟩
instance : HasF Tryz.prog 8 := ⟨by kernel_rfl⟩
instance : HasF Tryz.prog 9 := ⟨by kernel_rfl⟩
instance : HasF Tryz.prog 10 := ⟨by kernel_rfl⟩
instance : HasF Tryz.prog 11 := ⟨by kernel_rfl⟩
instance : HasF Tryz.prog 12 := ⟨by kernel_rfl⟩
instance : HasF Tryz.prog 13 := ⟨by kernel_rfl⟩
instance : HasF Tryz.prog 14 := ⟨by kernel_rfl⟩
instance : HasF Tryz.prog 15 := ⟨by kernel_rfl⟩
instance : HasF Tryz.prog 16 := ⟨by kernel_rfl⟩
instance : HasF Tryz.prog 17 := ⟨by kernel_rfl⟩
instance : HasF Tryz.prog 18 := ⟨by kernel_rfl⟩
instance : HasF Tryz.prog 19 := ⟨by kernel_rfl⟩
instance : HasF Tryz.prog 20 := ⟨by kernel_rfl⟩
instance : HasF Tryz.prog 21 := ⟨by kernel_rfl⟩
instance : HasF Tryz.prog 22 := ⟨by kernel_rfl⟩
instance : HasF Tryz.prog 23 := ⟨by kernel_rfl⟩
instance : HasF Tryz.prog 24 := ⟨by kernel_rfl⟩
instance : HasF Tryz.prog 25 := ⟨by kernel_rfl⟩
instance : HasF Tryz.prog 26 := ⟨by kernel_rfl⟩
instance : HasF Tryz.prog 27 := ⟨by kernel_rfl⟩
instance : HasF Tryz.prog 28 := ⟨by kernel_rfl⟩
instance : HasF Tryz.prog 29 := ⟨by kernel_rfl⟩
instance : HasF Tryz.prog 30 := ⟨by kernel_rfl⟩
instance : HasF Tryz.prog 31 := ⟨by kernel_rfl⟩
instance : HasF Tryz.prog 32 := ⟨by kernel_rfl⟩
instance : HasF Tryz.prog 33 := ⟨by kernel_rfl⟩
instance : HasF Tryz.prog 34 := ⟨by kernel_rfl⟩
instance : HasF Tryz.prog 35 := ⟨by kernel_rfl⟩
instance : HasF Tryz.prog 36 := ⟨by kernel_rfl⟩
instance : HasF Tryz.prog 37 := ⟨by kernel_rfl⟩
instance : HasF Tryz.prog 38 := ⟨by kernel_rfl⟩
instance : HasF Tryz.prog 39 := ⟨by kernel_rfl⟩
instance : HasF Tryz.prog 40 := ⟨by kernel_rfl⟩
instance : HasF Tryz.prog 41 := ⟨by kernel_rfl⟩
instance : HasF Tryz.prog 42 := ⟨by kernel_rfl⟩
instance : HasF Tryz.prog 43 := ⟨by kernel_rfl⟩
instance : HasF Tryz.prog 44 := ⟨by kernel_rfl⟩
instance : HasF Tryz.prog 45 := ⟨by kernel_rfl⟩
instance : HasF Tryz.prog 46 := ⟨by kernel_rfl⟩
instance : HasF Tryz.prog 47 := ⟨by kernel_rfl⟩
instance : HasF Tryz.prog 48 := ⟨by kernel_rfl⟩
instance : HasF Tryz.prog 49 := ⟨by kernel_rfl⟩
instance : HasF Tryz.prog 50 := ⟨by kernel_rfl⟩
instance : HasF Tryz.prog 51 := ⟨by kernel_rfl⟩
instance : HasF Tryz.prog 52 := ⟨by kernel_rfl⟩
instance : HasF Tryz.prog 53 := ⟨by kernel_rfl⟩
instance : HasF Tryz.prog 54 := ⟨by kernel_rfl⟩
instance : HasF Tryz.prog 55 := ⟨by kernel_rfl⟩
instance : HasF Tryz.prog 56 := ⟨by kernel_rfl⟩
instance : HasF Tryz.prog 57 := ⟨by kernel_rfl⟩
instance : HasF Tryz.prog 58 := ⟨by kernel_rfl⟩
instance : HasF Tryz.prog 59 := ⟨by kernel_rfl⟩
instance : HasF Tryz.prog 60 := ⟨by kernel_rfl⟩
instance : HasF Tryz.prog 61 := ⟨by kernel_rfl⟩
instance : HasF Tryz.prog 62 := ⟨by kernel_rfl⟩
instance : HasF Tryz.prog 63 := ⟨by kernel_rfl⟩
instance : HasF Tryz.prog 64 := ⟨by kernel_rfl⟩
instance : HasF Tryz.prog 65 := ⟨by kernel_rfl⟩
instance : HasF Tryz.prog 66 := ⟨by kernel_rfl⟩
instance : HasF Tryz.prog 67 := ⟨by kernel_rfl⟩
instance : HasF Tryz.prog 68 := ⟨by kernel_rfl⟩
instance : HasF Tryz.prog 69 := ⟨by kernel_rfl⟩
instance : HasF Tryz.prog 70 := ⟨by kernel_rfl⟩
instance : HasF Tryz.prog 71 := ⟨by kernel_rfl⟩
instance : HasF Tryz.prog 72 := ⟨by kernel_rfl⟩
instance : HasF Tryz.prog 73 := ⟨by kernel_rfl⟩
instance : HasF Tryz.prog 74 := ⟨by kernel_rfl⟩
instance : HasF Tryz.prog 75 := ⟨by kernel_rfl⟩
instance : HasF Tryz.prog 76 := ⟨by kernel_rfl⟩
instance : HasF Tryz.prog 77 := ⟨by kernel_rfl⟩
instance : HasF Tryz.prog 78 := ⟨by kernel_rfl⟩
instance : HasF Tryz.prog 79 := ⟨by kernel_rfl⟩
instance : HasF Tryz.prog 80 := ⟨by kernel_rfl⟩
instance : HasF Tryz.prog 81 := ⟨by kernel_rfl⟩
instance : HasF Tryz.prog 82 := ⟨by kernel_rfl⟩
instance : HasF Tryz.prog 83 := ⟨by kernel_rfl⟩
instance : HasF Tryz.prog 84 := ⟨by kernel_rfl⟩
instance : HasF Tryz.prog 85 := ⟨by kernel_rfl⟩
instance : HasF Tryz.prog 86 := ⟨by kernel_rfl⟩
instance : HasF Tryz.prog 87 := ⟨by kernel_rfl⟩
instance : HasF Tryz.prog 88 := ⟨by kernel_rfl⟩
instance : HasF Tryz.prog 89 := ⟨by kernel_rfl⟩
instance : HasF Tryz.prog 90 := ⟨by kernel_rfl⟩
instance : HasF Tryz.prog 91 := ⟨by kernel_rfl⟩
instance : HasF Tryz.prog 92 := ⟨by kernel_rfl⟩
instance : HasF Tryz.prog 93 := ⟨by kernel_rfl⟩
instance : HasF Tryz.prog 94 := ⟨by kernel_rfl⟩
instance : HasF Tryz.prog 95 := ⟨by kernel_rfl⟩
instance : HasF Tryz.prog 96 := ⟨by kernel_rfl⟩
instance : HasF Tryz.prog 97 := ⟨by kernel_rfl⟩
instance : HasF Tryz.prog 98 := ⟨by kernel_rfl⟩
instance : HasF Tryz.prog 99 := ⟨by kernel_rfl⟩
instance : HasF Tryz.prog 100 := ⟨by kernel_rfl⟩
instance : HasF Tryz.prog 101 := ⟨by kernel_rfl⟩
instance : HasF Tryz.prog 102 := ⟨by kernel_rfl⟩
instance : HasF Tryz.prog 103 := ⟨by kernel_rfl⟩
instance : HasF Tryz.prog 104 := ⟨by kernel_rfl⟩
instance : HasF Tryz.prog 105 := ⟨by kernel_rfl⟩
instance : HasF Tryz.prog 106 := ⟨by kernel_rfl⟩
instance : HasF Tryz.prog 107 := ⟨by kernel_rfl⟩
instance : HasF Tryz.prog 108 := ⟨by kernel_rfl⟩
instance : HasF Tryz.prog 109 := ⟨by kernel_rfl⟩
instance : HasF Tryz.prog 110 := ⟨by kernel_rfl⟩
instance : HasF Tryz.prog 111 := ⟨by kernel_rfl⟩
instance : HasF Tryz.prog 112 := ⟨by kernel_rfl⟩
instance : HasF Tryz.prog 113 := ⟨by kernel_rfl⟩
instance : HasF Tryz.prog 114 := ⟨by kernel_rfl⟩
instance : HasF Tryz.prog 135 := ⟨by kernel_rfl⟩
instance : HasF Tryz.prog 136 := ⟨by kernel_rfl⟩
instance : HasF Tryz.prog 137 := ⟨by kernel_rfl⟩
instance : HasF Tryz.prog 138 := ⟨by kernel_rfl⟩
instance : HasF Tryz.prog 139 := ⟨by kernel_rfl⟩
instance : HasF Tryz.prog 140 := ⟨by kernel_rfl⟩
instance : HasF Tryz.prog 141 := ⟨by kernel_rfl⟩
instance : HasF Tryz.prog 142 := ⟨by kernel_rfl⟩
instance : HasF Tryz.prog 143 := ⟨by kernel_rfl⟩
instance : HasF Tryz.prog 144 := ⟨by kernel_rfl⟩
instance : HasF Tryz.prog 145 := ⟨by kernel_rfl⟩
instance : HasF Tryz.prog 146 := ⟨by kernel_rfl⟩
structure S_api_Part where
  f_Ring : Int
  f_Half : Bool
  f_Fuel : Int
  f_Refs : Int
  f_Futures : Int
  f_Inputs : Value
  f_Picks : Value
  f_Seed : Int
instance : Dfl S_api_Part := ⟨⟨Dfl.d, Dfl.d, Dfl.d, Dfl.d, Dfl.d, Dfl.d, Dfl.d, Dfl.d⟩⟩
def e_api_Part : Enc S_api_Part := ⟨8, fun x => [.int .i64 x.f_Ring, .bool x.f_Half, .int .i64 x.f_Fuel, .int .i64 x.f_Refs, .int .i64 x.f_Futures, x.f_Inputs, x.f_Picks, .int .u64 x.f_Seed], fun _ => rfl⟩
instance : EncS e_api_Part 8 := ⟨rfl⟩
instance (x : S_api_Part) : EncC e_api_Part x [.int .i64 x.f_Ring, .bool x.f_Half, .int .i64 x.f_Fuel, .int .i64 x.f_Refs, .int .i64 x.f_Futures, x.f_Inputs, x.f_Picks, .int .u64 x.f_Seed] := ⟨rfl⟩
instance (yf_Ring : Int) (yf_Half : Bool) (yf_Fuel : Int) (yf_Refs : Int) (yf_Futures : Int) (yf_Inputs : Value) (yf_Picks : Value) (yf_Seed : Int) : EncI e_api_Part (.agg #[.int .i64 yf_Ring, .bool yf_Half, .int .i64 yf_Fuel, .int .i64 yf_Refs, .int .i64 yf_Futures, yf_Inputs, yf_Picks, .int .u64 yf_Seed]) ⟨yf_Ring, yf_Half, yf_Fuel, yf_Refs, yf_Futures, yf_Inputs, yf_Picks, yf_Seed⟩ := ⟨rfl⟩
instance : TyE Tryz.prog 28 e_api_Part := ⟨(inferInstance : TySz Tryz.prog 28 8)⟩
instance (H : List HProp) (x : S_api_Part) (a : Int) : EncU H e_api_Part x 0 (.int .i64 a) { x with f_Ring := a } := ⟨fun _ _ => ⟨_, rfl, rfl⟩⟩
instance (H : List HProp) (x : S_api_Part) (a : Bool) : EncU H e_api_Part x 1 (.bool a) { x with f_Half := a } := ⟨fun _ _ => ⟨_, rfl, rfl⟩⟩
instance (H : List HProp) (x : S_api_Part) (a : Int) : EncU H e_api_Part x 2 (.int .i64 a) { x with f_Fuel := a } := ⟨fun _ _ => ⟨_, rfl, rfl⟩⟩
instance (H : List HProp) (x : S_api_Part) (a : Int) : EncU H e_api_Part x 3 (.int .i64 a) { x with f_Refs := a } := ⟨fun _ _ => ⟨_, rfl, rfl⟩⟩
instance (H : List HProp) (x : S_api_Part) (a : Int) : EncU H e_api_Part x 4 (.int .i64 a) { x with f_Futures := a } := ⟨fun _ _ => ⟨_, rfl, rfl⟩⟩
instance (priority := low) (H : List HProp) (x : S_api_Part) (a : Value) [h : Fl1 H a] : EncU H e_api_Part x 5 a { x with f_Inputs := a } := ⟨fun w hw => ⟨[a], (h.f w hw).2, rfl⟩⟩
instance (priority := low) (H : List HProp) (x : S_api_Part) (a : Value) [h : Fl1 H a] : EncU H e_api_Part x 6 a { x with f_Picks := a } := ⟨fun w hw => ⟨[a], (h.f w hw).2, rfl⟩⟩
instance (H : List HProp) (x : S_api_Part) (a : Int) : EncU H e_api_Part x 7 (.int .u64 a) { x with f_Seed := a } := ⟨fun _ _ => ⟨_, rfl, rfl⟩⟩
structure S_confidantlaw24_Act where
  f_What : Int
  f_W : Int
  f_N : Int
  f_F : Int
  deriving DecidableEq
instance : Dfl S_confidantlaw24_Act := ⟨⟨Dfl.d, Dfl.d, Dfl.d, Dfl.d⟩⟩
def e_confidantlaw24_Act : Enc S_confidantlaw24_Act := ⟨4, fun x => [.int .u8 x.f_What, .int .u8 x.f_W, .int .u8 x.f_N, .int .u8 x.f_F], fun _ => rfl⟩
instance : EncS e_confidantlaw24_Act 4 := ⟨rfl⟩
instance (x : S_confidantlaw24_Act) : EncC e_confidantlaw24_Act x [.int .u8 x.f_What, .int .u8 x.f_W, .int .u8 x.f_N, .int .u8 x.f_F] := ⟨rfl⟩
instance (yf_What : Int) (yf_W : Int) (yf_N : Int) (yf_F : Int) : EncI e_confidantlaw24_Act (.agg #[.int .u8 yf_What, .int .u8 yf_W, .int .u8 yf_N, .int .u8 yf_F]) ⟨yf_What, yf_W, yf_N, yf_F⟩ := ⟨rfl⟩
instance : TyE Tryz.prog 41 e_confidantlaw24_Act := ⟨(inferInstance : TySz Tryz.prog 41 4)⟩
instance (H : List HProp) (x : S_confidantlaw24_Act) (a : Int) : EncU H e_confidantlaw24_Act x 0 (.int .u8 a) { x with f_What := a } := ⟨fun _ _ => ⟨_, rfl, rfl⟩⟩
instance (H : List HProp) (x : S_confidantlaw24_Act) (a : Int) : EncU H e_confidantlaw24_Act x 1 (.int .u8 a) { x with f_W := a } := ⟨fun _ _ => ⟨_, rfl, rfl⟩⟩
instance (H : List HProp) (x : S_confidantlaw24_Act) (a : Int) : EncU H e_confidantlaw24_Act x 2 (.int .u8 a) { x with f_N := a } := ⟨fun _ _ => ⟨_, rfl, rfl⟩⟩
instance (H : List HProp) (x : S_confidantlaw24_Act) (a : Int) : EncU H e_confidantlaw24_Act x 3 (.int .u8 a) { x with f_F := a } := ⟨fun _ _ => ⟨_, rfl, rfl⟩⟩
structure S_api_Task where
  f_Id : Int
  f_Func : Int
  f_Pc : Int
  f_Stack : Value
  f_Vars0 : Int
  f_Vars1 : Int
  f_Vars2 : Int
  f_Vars3 : Int
  f_Label : Int
  f_Clear : Int
  f_Privs : Int
  f_Worker : Int
instance : Dfl S_api_Task := ⟨⟨Dfl.d, Dfl.d, Dfl.d, Dfl.d, Dfl.d, Dfl.d, Dfl.d, Dfl.d, Dfl.d, Dfl.d, Dfl.d, Dfl.d⟩⟩
def e_api_Task : Enc S_api_Task := ⟨12, fun x => [.int .i32 x.f_Id, .int .i64 x.f_Func, .int .i64 x.f_Pc, x.f_Stack, .int .i32 x.f_Vars0, .int .i32 x.f_Vars1, .int .i32 x.f_Vars2, .int .i32 x.f_Vars3, .int .i64 x.f_Label, .int .i64 x.f_Clear, .int .u32 x.f_Privs, .int .i64 x.f_Worker], fun _ => rfl⟩
instance : EncS e_api_Task 12 := ⟨rfl⟩
instance (x : S_api_Task) : EncC e_api_Task x [.int .i32 x.f_Id, .int .i64 x.f_Func, .int .i64 x.f_Pc, x.f_Stack, .int .i32 x.f_Vars0, .int .i32 x.f_Vars1, .int .i32 x.f_Vars2, .int .i32 x.f_Vars3, .int .i64 x.f_Label, .int .i64 x.f_Clear, .int .u32 x.f_Privs, .int .i64 x.f_Worker] := ⟨rfl⟩
instance (yf_Id : Int) (yf_Func : Int) (yf_Pc : Int) (yf_Stack : Value) (yf_Vars0 : Int) (yf_Vars1 : Int) (yf_Vars2 : Int) (yf_Vars3 : Int) (yf_Label : Int) (yf_Clear : Int) (yf_Privs : Int) (yf_Worker : Int) : EncI e_api_Task (.agg #[.int .i32 yf_Id, .int .i64 yf_Func, .int .i64 yf_Pc, yf_Stack, .int .i32 yf_Vars0, .int .i32 yf_Vars1, .int .i32 yf_Vars2, .int .i32 yf_Vars3, .int .i64 yf_Label, .int .i64 yf_Clear, .int .u32 yf_Privs, .int .i64 yf_Worker]) ⟨yf_Id, yf_Func, yf_Pc, yf_Stack, yf_Vars0, yf_Vars1, yf_Vars2, yf_Vars3, yf_Label, yf_Clear, yf_Privs, yf_Worker⟩ := ⟨rfl⟩
instance : TyE Tryz.prog 45 e_api_Task := ⟨(inferInstance : TySz Tryz.prog 45 12)⟩
instance (H : List HProp) (x : S_api_Task) (a : Int) : EncU H e_api_Task x 0 (.int .i32 a) { x with f_Id := a } := ⟨fun _ _ => ⟨_, rfl, rfl⟩⟩
instance (H : List HProp) (x : S_api_Task) (a : Int) : EncU H e_api_Task x 1 (.int .i64 a) { x with f_Func := a } := ⟨fun _ _ => ⟨_, rfl, rfl⟩⟩
instance (H : List HProp) (x : S_api_Task) (a : Int) : EncU H e_api_Task x 2 (.int .i64 a) { x with f_Pc := a } := ⟨fun _ _ => ⟨_, rfl, rfl⟩⟩
instance (priority := low) (H : List HProp) (x : S_api_Task) (a : Value) [h : Fl1 H a] : EncU H e_api_Task x 3 a { x with f_Stack := a } := ⟨fun w hw => ⟨[a], (h.f w hw).2, rfl⟩⟩
instance (H : List HProp) (x : S_api_Task) (a : Int) : EncU H e_api_Task x 4 (.int .i32 a) { x with f_Vars0 := a } := ⟨fun _ _ => ⟨_, rfl, rfl⟩⟩
instance (H : List HProp) (x : S_api_Task) (a : Int) : EncU H e_api_Task x 5 (.int .i32 a) { x with f_Vars1 := a } := ⟨fun _ _ => ⟨_, rfl, rfl⟩⟩
instance (H : List HProp) (x : S_api_Task) (a : Int) : EncU H e_api_Task x 6 (.int .i32 a) { x with f_Vars2 := a } := ⟨fun _ _ => ⟨_, rfl, rfl⟩⟩
instance (H : List HProp) (x : S_api_Task) (a : Int) : EncU H e_api_Task x 7 (.int .i32 a) { x with f_Vars3 := a } := ⟨fun _ _ => ⟨_, rfl, rfl⟩⟩
instance (H : List HProp) (x : S_api_Task) (a : Int) : EncU H e_api_Task x 8 (.int .i64 a) { x with f_Label := a } := ⟨fun _ _ => ⟨_, rfl, rfl⟩⟩
instance (H : List HProp) (x : S_api_Task) (a : Int) : EncU H e_api_Task x 9 (.int .i64 a) { x with f_Clear := a } := ⟨fun _ _ => ⟨_, rfl, rfl⟩⟩
instance (H : List HProp) (x : S_api_Task) (a : Int) : EncU H e_api_Task x 10 (.int .u32 a) { x with f_Privs := a } := ⟨fun _ _ => ⟨_, rfl, rfl⟩⟩
instance (H : List HProp) (x : S_api_Task) (a : Int) : EncU H e_api_Task x 11 (.int .i64 a) { x with f_Worker := a } := ⟨fun _ _ => ⟨_, rfl, rfl⟩⟩
structure S_confidantref15_Queue where
  f_L : Value
instance : Dfl S_confidantref15_Queue := ⟨⟨Dfl.d⟩⟩
def e_confidantref15_Queue : Enc S_confidantref15_Queue := ⟨1, fun x => [x.f_L], fun _ => rfl⟩
instance : EncS e_confidantref15_Queue 1 := ⟨rfl⟩
instance (x : S_confidantref15_Queue) : EncC e_confidantref15_Queue x [x.f_L] := ⟨rfl⟩
instance (yf_L : Value) : EncI e_confidantref15_Queue (.agg #[yf_L]) ⟨yf_L⟩ := ⟨rfl⟩
instance : TyE Tryz.prog 53 e_confidantref15_Queue := ⟨(inferInstance : TySz Tryz.prog 53 1)⟩
instance (priority := low) (H : List HProp) (x : S_confidantref15_Queue) (a : Value) [h : Fl1 H a] : EncU H e_confidantref15_Queue x 0 a { x with f_L := a } := ⟨fun w hw => ⟨[a], (h.f w hw).2, rfl⟩⟩
structure S_confidantref15_Park where
  f_L : Value
instance : Dfl S_confidantref15_Park := ⟨⟨Dfl.d⟩⟩
def e_confidantref15_Park : Enc S_confidantref15_Park := ⟨1, fun x => [x.f_L], fun _ => rfl⟩
instance : EncS e_confidantref15_Park 1 := ⟨rfl⟩
instance (x : S_confidantref15_Park) : EncC e_confidantref15_Park x [x.f_L] := ⟨rfl⟩
instance (yf_L : Value) : EncI e_confidantref15_Park (.agg #[yf_L]) ⟨yf_L⟩ := ⟨rfl⟩
instance : TyE Tryz.prog 56 e_confidantref15_Park := ⟨(inferInstance : TySz Tryz.prog 56 1)⟩
instance (priority := low) (H : List HProp) (x : S_confidantref15_Park) (a : Value) [h : Fl1 H a] : EncU H e_confidantref15_Park x 0 a { x with f_L := a } := ⟨fun w hw => ⟨[a], (h.f w hw).2, rfl⟩⟩
structure S_confidantref24_Deck where
  f_Label : Int
  f_Workers : Int
  f_Half : Bool
  f_Fuel : Int
  f_Rings : Value
  f_Held : Value
  f_Holds : Value
  f_In : S_confidantref15_Queue
  f_Park : S_confidantref15_Park
  f_Picks : Value
instance : Dfl S_confidantref24_Deck := ⟨⟨Dfl.d, Dfl.d, Dfl.d, Dfl.d, Dfl.d, Dfl.d, Dfl.d, Dfl.d, Dfl.d, Dfl.d⟩⟩
def e_confidantref24_Deck : Enc S_confidantref24_Deck := ⟨10, fun x => [.int .i64 x.f_Label, .int .i64 x.f_Workers, .bool x.f_Half, .int .i64 x.f_Fuel, x.f_Rings, x.f_Held, x.f_Holds, x.f_In.f_L, x.f_Park.f_L, x.f_Picks], fun _ => rfl⟩
instance : EncS e_confidantref24_Deck 10 := ⟨rfl⟩
instance (x : S_confidantref24_Deck) : EncC e_confidantref24_Deck x [.int .i64 x.f_Label, .int .i64 x.f_Workers, .bool x.f_Half, .int .i64 x.f_Fuel, x.f_Rings, x.f_Held, x.f_Holds, x.f_In.f_L, x.f_Park.f_L, x.f_Picks] := ⟨rfl⟩
instance (yf_Label : Int) (yf_Workers : Int) (yf_Half : Bool) (yf_Fuel : Int) (yf_Rings : Value) (yf_Held : Value) (yf_Holds : Value) (yf_In_f_L : Value) (yf_Park_f_L : Value) (yf_Picks : Value) : EncI e_confidantref24_Deck (.agg #[.int .i64 yf_Label, .int .i64 yf_Workers, .bool yf_Half, .int .i64 yf_Fuel, yf_Rings, yf_Held, yf_Holds, yf_In_f_L, yf_Park_f_L, yf_Picks]) ⟨yf_Label, yf_Workers, yf_Half, yf_Fuel, yf_Rings, yf_Held, yf_Holds, ⟨yf_In_f_L⟩, ⟨yf_Park_f_L⟩, yf_Picks⟩ := ⟨rfl⟩
instance : TyE Tryz.prog 59 e_confidantref24_Deck := ⟨(inferInstance : TySz Tryz.prog 59 10)⟩
instance (H : List HProp) (x : S_confidantref24_Deck) (a : Int) : EncU H e_confidantref24_Deck x 0 (.int .i64 a) { x with f_Label := a } := ⟨fun _ _ => ⟨_, rfl, rfl⟩⟩
instance (H : List HProp) (x : S_confidantref24_Deck) (a : Int) : EncU H e_confidantref24_Deck x 1 (.int .i64 a) { x with f_Workers := a } := ⟨fun _ _ => ⟨_, rfl, rfl⟩⟩
instance (H : List HProp) (x : S_confidantref24_Deck) (a : Bool) : EncU H e_confidantref24_Deck x 2 (.bool a) { x with f_Half := a } := ⟨fun _ _ => ⟨_, rfl, rfl⟩⟩
instance (H : List HProp) (x : S_confidantref24_Deck) (a : Int) : EncU H e_confidantref24_Deck x 3 (.int .i64 a) { x with f_Fuel := a } := ⟨fun _ _ => ⟨_, rfl, rfl⟩⟩
instance (priority := low) (H : List HProp) (x : S_confidantref24_Deck) (a : Value) [h : Fl1 H a] : EncU H e_confidantref24_Deck x 4 a { x with f_Rings := a } := ⟨fun w hw => ⟨[a], (h.f w hw).2, rfl⟩⟩
instance (priority := low) (H : List HProp) (x : S_confidantref24_Deck) (a : Value) [h : Fl1 H a] : EncU H e_confidantref24_Deck x 5 a { x with f_Held := a } := ⟨fun w hw => ⟨[a], (h.f w hw).2, rfl⟩⟩
instance (priority := low) (H : List HProp) (x : S_confidantref24_Deck) (a : Value) [h : Fl1 H a] : EncU H e_confidantref24_Deck x 6 a { x with f_Holds := a } := ⟨fun w hw => ⟨[a], (h.f w hw).2, rfl⟩⟩
instance (priority := low) (H : List HProp) (x : S_confidantref24_Deck) (a : Value) [h : Fl1 H a] : EncU H e_confidantref24_Deck x 9 a { x with f_Picks := a } := ⟨fun w hw => ⟨[a], (h.f w hw).2, rfl⟩⟩
structure S_confidantref15_Waiting where
  f_Task : S_api_Task
  f_Future : Int
instance : Dfl S_confidantref15_Waiting := ⟨⟨Dfl.d, Dfl.d⟩⟩
def e_confidantref15_Waiting : Enc S_confidantref15_Waiting := ⟨13, fun x => [.int .i32 x.f_Task.f_Id, .int .i64 x.f_Task.f_Func, .int .i64 x.f_Task.f_Pc, x.f_Task.f_Stack, .int .i32 x.f_Task.f_Vars0, .int .i32 x.f_Task.f_Vars1, .int .i32 x.f_Task.f_Vars2, .int .i32 x.f_Task.f_Vars3, .int .i64 x.f_Task.f_Label, .int .i64 x.f_Task.f_Clear, .int .u32 x.f_Task.f_Privs, .int .i64 x.f_Task.f_Worker, .int .i32 x.f_Future], fun _ => rfl⟩
instance : EncS e_confidantref15_Waiting 13 := ⟨rfl⟩
instance (x : S_confidantref15_Waiting) : EncC e_confidantref15_Waiting x [.int .i32 x.f_Task.f_Id, .int .i64 x.f_Task.f_Func, .int .i64 x.f_Task.f_Pc, x.f_Task.f_Stack, .int .i32 x.f_Task.f_Vars0, .int .i32 x.f_Task.f_Vars1, .int .i32 x.f_Task.f_Vars2, .int .i32 x.f_Task.f_Vars3, .int .i64 x.f_Task.f_Label, .int .i64 x.f_Task.f_Clear, .int .u32 x.f_Task.f_Privs, .int .i64 x.f_Task.f_Worker, .int .i32 x.f_Future] := ⟨rfl⟩
instance (yf_Task_f_Id : Int) (yf_Task_f_Func : Int) (yf_Task_f_Pc : Int) (yf_Task_f_Stack : Value) (yf_Task_f_Vars0 : Int) (yf_Task_f_Vars1 : Int) (yf_Task_f_Vars2 : Int) (yf_Task_f_Vars3 : Int) (yf_Task_f_Label : Int) (yf_Task_f_Clear : Int) (yf_Task_f_Privs : Int) (yf_Task_f_Worker : Int) (yf_Future : Int) : EncI e_confidantref15_Waiting (.agg #[.int .i32 yf_Task_f_Id, .int .i64 yf_Task_f_Func, .int .i64 yf_Task_f_Pc, yf_Task_f_Stack, .int .i32 yf_Task_f_Vars0, .int .i32 yf_Task_f_Vars1, .int .i32 yf_Task_f_Vars2, .int .i32 yf_Task_f_Vars3, .int .i64 yf_Task_f_Label, .int .i64 yf_Task_f_Clear, .int .u32 yf_Task_f_Privs, .int .i64 yf_Task_f_Worker, .int .i32 yf_Future]) ⟨⟨yf_Task_f_Id, yf_Task_f_Func, yf_Task_f_Pc, yf_Task_f_Stack, yf_Task_f_Vars0, yf_Task_f_Vars1, yf_Task_f_Vars2, yf_Task_f_Vars3, yf_Task_f_Label, yf_Task_f_Clear, yf_Task_f_Privs, yf_Task_f_Worker⟩, yf_Future⟩ := ⟨rfl⟩
instance : TyE Tryz.prog 62 e_confidantref15_Waiting := ⟨(inferInstance : TySz Tryz.prog 62 13)⟩
instance (H : List HProp) (x : S_confidantref15_Waiting) (a : Int) : EncU H e_confidantref15_Waiting x 12 (.int .i32 a) { x with f_Future := a } := ⟨fun _ _ => ⟨_, rfl, rfl⟩⟩
structure S_api_Event where
  f_Round : Int
  f_Label : Int
  f_Kind : Int
  f_Worker : Int
  f_Task : Int
  f_A : Int
  f_B : Int
  deriving DecidableEq
instance : Dfl S_api_Event := ⟨⟨Dfl.d, Dfl.d, Dfl.d, Dfl.d, Dfl.d, Dfl.d, Dfl.d⟩⟩
def e_api_Event : Enc S_api_Event := ⟨7, fun x => [.int .i64 x.f_Round, .int .i64 x.f_Label, .int .i64 x.f_Kind, .int .i64 x.f_Worker, .int .i32 x.f_Task, .int .i32 x.f_A, .int .i32 x.f_B], fun _ => rfl⟩
instance : EncS e_api_Event 7 := ⟨rfl⟩
instance (x : S_api_Event) : EncC e_api_Event x [.int .i64 x.f_Round, .int .i64 x.f_Label, .int .i64 x.f_Kind, .int .i64 x.f_Worker, .int .i32 x.f_Task, .int .i32 x.f_A, .int .i32 x.f_B] := ⟨rfl⟩
instance (yf_Round : Int) (yf_Label : Int) (yf_Kind : Int) (yf_Worker : Int) (yf_Task : Int) (yf_A : Int) (yf_B : Int) : EncI e_api_Event (.agg #[.int .i64 yf_Round, .int .i64 yf_Label, .int .i64 yf_Kind, .int .i64 yf_Worker, .int .i32 yf_Task, .int .i32 yf_A, .int .i32 yf_B]) ⟨yf_Round, yf_Label, yf_Kind, yf_Worker, yf_Task, yf_A, yf_B⟩ := ⟨rfl⟩
instance : TyE Tryz.prog 81 e_api_Event := ⟨(inferInstance : TySz Tryz.prog 81 7)⟩
instance (H : List HProp) (x : S_api_Event) (a : Int) : EncU H e_api_Event x 0 (.int .i64 a) { x with f_Round := a } := ⟨fun _ _ => ⟨_, rfl, rfl⟩⟩
instance (H : List HProp) (x : S_api_Event) (a : Int) : EncU H e_api_Event x 1 (.int .i64 a) { x with f_Label := a } := ⟨fun _ _ => ⟨_, rfl, rfl⟩⟩
instance (H : List HProp) (x : S_api_Event) (a : Int) : EncU H e_api_Event x 2 (.int .i64 a) { x with f_Kind := a } := ⟨fun _ _ => ⟨_, rfl, rfl⟩⟩
instance (H : List HProp) (x : S_api_Event) (a : Int) : EncU H e_api_Event x 3 (.int .i64 a) { x with f_Worker := a } := ⟨fun _ _ => ⟨_, rfl, rfl⟩⟩
instance (H : List HProp) (x : S_api_Event) (a : Int) : EncU H e_api_Event x 4 (.int .i32 a) { x with f_Task := a } := ⟨fun _ _ => ⟨_, rfl, rfl⟩⟩
instance (H : List HProp) (x : S_api_Event) (a : Int) : EncU H e_api_Event x 5 (.int .i32 a) { x with f_A := a } := ⟨fun _ _ => ⟨_, rfl, rfl⟩⟩
instance (H : List HProp) (x : S_api_Event) (a : Int) : EncU H e_api_Event x 6 (.int .i32 a) { x with f_B := a } := ⟨fun _ _ => ⟨_, rfl, rfl⟩⟩
structure S_deck_Deck where
  f_label : Int
  f_half : Bool
  f_fuel : Int
  f_hands : Value
  f_come : Value
  f_wait : Value
  f_pick : Value
instance : Dfl S_deck_Deck := ⟨⟨Dfl.d, Dfl.d, Dfl.d, Dfl.d, Dfl.d, Dfl.d, Dfl.d⟩⟩
def e_deck_Deck : Enc S_deck_Deck := ⟨7, fun x => [.int .i64 x.f_label, .bool x.f_half, .int .i64 x.f_fuel, x.f_hands, x.f_come, x.f_wait, x.f_pick], fun _ => rfl⟩
instance : EncS e_deck_Deck 7 := ⟨rfl⟩
instance (x : S_deck_Deck) : EncC e_deck_Deck x [.int .i64 x.f_label, .bool x.f_half, .int .i64 x.f_fuel, x.f_hands, x.f_come, x.f_wait, x.f_pick] := ⟨rfl⟩
instance (yf_label : Int) (yf_half : Bool) (yf_fuel : Int) (yf_hands : Value) (yf_come : Value) (yf_wait : Value) (yf_pick : Value) : EncI e_deck_Deck (.agg #[.int .i64 yf_label, .bool yf_half, .int .i64 yf_fuel, yf_hands, yf_come, yf_wait, yf_pick]) ⟨yf_label, yf_half, yf_fuel, yf_hands, yf_come, yf_wait, yf_pick⟩ := ⟨rfl⟩
instance : TyE Tryz.prog 94 e_deck_Deck := ⟨(inferInstance : TySz Tryz.prog 94 7)⟩
instance (H : List HProp) (x : S_deck_Deck) (a : Int) : EncU H e_deck_Deck x 0 (.int .i64 a) { x with f_label := a } := ⟨fun _ _ => ⟨_, rfl, rfl⟩⟩
instance (H : List HProp) (x : S_deck_Deck) (a : Bool) : EncU H e_deck_Deck x 1 (.bool a) { x with f_half := a } := ⟨fun _ _ => ⟨_, rfl, rfl⟩⟩
instance (H : List HProp) (x : S_deck_Deck) (a : Int) : EncU H e_deck_Deck x 2 (.int .i64 a) { x with f_fuel := a } := ⟨fun _ _ => ⟨_, rfl, rfl⟩⟩
instance (priority := low) (H : List HProp) (x : S_deck_Deck) (a : Value) [h : Fl1 H a] : EncU H e_deck_Deck x 3 a { x with f_hands := a } := ⟨fun w hw => ⟨[a], (h.f w hw).2, rfl⟩⟩
instance (priority := low) (H : List HProp) (x : S_deck_Deck) (a : Value) [h : Fl1 H a] : EncU H e_deck_Deck x 4 a { x with f_come := a } := ⟨fun w hw => ⟨[a], (h.f w hw).2, rfl⟩⟩
instance (priority := low) (H : List HProp) (x : S_deck_Deck) (a : Value) [h : Fl1 H a] : EncU H e_deck_Deck x 5 a { x with f_wait := a } := ⟨fun w hw => ⟨[a], (h.f w hw).2, rfl⟩⟩
instance (priority := low) (H : List HProp) (x : S_deck_Deck) (a : Value) [h : Fl1 H a] : EncU H e_deck_Deck x 6 a { x with f_pick := a } := ⟨fun w hw => ⟨[a], (h.f w hw).2, rfl⟩⟩
structure S_deck_hand where
  f_Ring : Value
  f_held : S_api_Task
  f_full : Bool
instance : Dfl S_deck_hand := ⟨⟨Dfl.d, Dfl.d, Dfl.d⟩⟩
def e_deck_hand : Enc S_deck_hand := ⟨14, fun x => [x.f_Ring, .int .i32 x.f_held.f_Id, .int .i64 x.f_held.f_Func, .int .i64 x.f_held.f_Pc, x.f_held.f_Stack, .int .i32 x.f_held.f_Vars0, .int .i32 x.f_held.f_Vars1, .int .i32 x.f_held.f_Vars2, .int .i32 x.f_held.f_Vars3, .int .i64 x.f_held.f_Label, .int .i64 x.f_held.f_Clear, .int .u32 x.f_held.f_Privs, .int .i64 x.f_held.f_Worker, .bool x.f_full], fun _ => rfl⟩
instance : EncS e_deck_hand 14 := ⟨rfl⟩
instance (x : S_deck_hand) : EncC e_deck_hand x [x.f_Ring, .int .i32 x.f_held.f_Id, .int .i64 x.f_held.f_Func, .int .i64 x.f_held.f_Pc, x.f_held.f_Stack, .int .i32 x.f_held.f_Vars0, .int .i32 x.f_held.f_Vars1, .int .i32 x.f_held.f_Vars2, .int .i32 x.f_held.f_Vars3, .int .i64 x.f_held.f_Label, .int .i64 x.f_held.f_Clear, .int .u32 x.f_held.f_Privs, .int .i64 x.f_held.f_Worker, .bool x.f_full] := ⟨rfl⟩
instance (yf_Ring : Value) (yf_held_f_Id : Int) (yf_held_f_Func : Int) (yf_held_f_Pc : Int) (yf_held_f_Stack : Value) (yf_held_f_Vars0 : Int) (yf_held_f_Vars1 : Int) (yf_held_f_Vars2 : Int) (yf_held_f_Vars3 : Int) (yf_held_f_Label : Int) (yf_held_f_Clear : Int) (yf_held_f_Privs : Int) (yf_held_f_Worker : Int) (yf_full : Bool) : EncI e_deck_hand (.agg #[yf_Ring, .int .i32 yf_held_f_Id, .int .i64 yf_held_f_Func, .int .i64 yf_held_f_Pc, yf_held_f_Stack, .int .i32 yf_held_f_Vars0, .int .i32 yf_held_f_Vars1, .int .i32 yf_held_f_Vars2, .int .i32 yf_held_f_Vars3, .int .i64 yf_held_f_Label, .int .i64 yf_held_f_Clear, .int .u32 yf_held_f_Privs, .int .i64 yf_held_f_Worker, .bool yf_full]) ⟨yf_Ring, ⟨yf_held_f_Id, yf_held_f_Func, yf_held_f_Pc, yf_held_f_Stack, yf_held_f_Vars0, yf_held_f_Vars1, yf_held_f_Vars2, yf_held_f_Vars3, yf_held_f_Label, yf_held_f_Clear, yf_held_f_Privs, yf_held_f_Worker⟩, yf_full⟩ := ⟨rfl⟩
instance : TyE Tryz.prog 99 e_deck_hand := ⟨(inferInstance : TySz Tryz.prog 99 14)⟩
instance (priority := low) (H : List HProp) (x : S_deck_hand) (a : Value) [h : Fl1 H a] : EncU H e_deck_hand x 0 a { x with f_Ring := a } := ⟨fun w hw => ⟨[a], (h.f w hw).2, rfl⟩⟩
instance (H : List HProp) (x : S_deck_hand) (a : Bool) : EncU H e_deck_hand x 13 (.bool a) { x with f_full := a } := ⟨fun _ _ => ⟨_, rfl, rfl⟩⟩
structure S_future_Futures where
  f_l : Value
  f_quotas : Value
instance : Dfl S_future_Futures := ⟨⟨Dfl.d, Dfl.d⟩⟩
def e_future_Futures : Enc S_future_Futures := ⟨2, fun x => [x.f_l, x.f_quotas], fun _ => rfl⟩
instance : EncS e_future_Futures 2 := ⟨rfl⟩
instance (x : S_future_Futures) : EncC e_future_Futures x [x.f_l, x.f_quotas] := ⟨rfl⟩
instance (yf_l : Value) (yf_quotas : Value) : EncI e_future_Futures (.agg #[yf_l, yf_quotas]) ⟨yf_l, yf_quotas⟩ := ⟨rfl⟩
instance : TyE Tryz.prog 106 e_future_Futures := ⟨(inferInstance : TySz Tryz.prog 106 2)⟩
instance (priority := low) (H : List HProp) (x : S_future_Futures) (a : Value) [h : Fl1 H a] : EncU H e_future_Futures x 0 a { x with f_l := a } := ⟨fun w hw => ⟨[a], (h.f w hw).2, rfl⟩⟩
instance (priority := low) (H : List HProp) (x : S_future_Futures) (a : Value) [h : Fl1 H a] : EncU H e_future_Futures x 1 a { x with f_quotas := a } := ⟨fun w hw => ⟨[a], (h.f w hw).2, rfl⟩⟩
structure S_confidantref12_Futures where
  f_quota : Value
  f_L : Value
instance : Dfl S_confidantref12_Futures := ⟨⟨Dfl.d, Dfl.d⟩⟩
def e_confidantref12_Futures : Enc S_confidantref12_Futures := ⟨2, fun x => [x.f_quota, x.f_L], fun _ => rfl⟩
instance : EncS e_confidantref12_Futures 2 := ⟨rfl⟩
instance (x : S_confidantref12_Futures) : EncC e_confidantref12_Futures x [x.f_quota, x.f_L] := ⟨rfl⟩
instance (yf_quota : Value) (yf_L : Value) : EncI e_confidantref12_Futures (.agg #[yf_quota, yf_L]) ⟨yf_quota, yf_L⟩ := ⟨rfl⟩
instance : TyE Tryz.prog 109 e_confidantref12_Futures := ⟨(inferInstance : TySz Tryz.prog 109 2)⟩
instance (priority := low) (H : List HProp) (x : S_confidantref12_Futures) (a : Value) [h : Fl1 H a] : EncU H e_confidantref12_Futures x 0 a { x with f_quota := a } := ⟨fun w hw => ⟨[a], (h.f w hw).2, rfl⟩⟩
instance (priority := low) (H : List HProp) (x : S_confidantref12_Futures) (a : Value) [h : Fl1 H a] : EncU H e_confidantref12_Futures x 1 a { x with f_L := a } := ⟨fun w hw => ⟨[a], (h.f w hw).2, rfl⟩⟩
structure S_api_Future where
  f_Label : Int
  f_State : Int
  f_Value : Int
  f_Code : Int
  deriving DecidableEq
instance : Dfl S_api_Future := ⟨⟨Dfl.d, Dfl.d, Dfl.d, Dfl.d⟩⟩
def e_api_Future : Enc S_api_Future := ⟨4, fun x => [.int .i64 x.f_Label, .int .i64 x.f_State, .int .i32 x.f_Value, .int .i64 x.f_Code], fun _ => rfl⟩
instance : EncS e_api_Future 4 := ⟨rfl⟩
instance (x : S_api_Future) : EncC e_api_Future x [.int .i64 x.f_Label, .int .i64 x.f_State, .int .i32 x.f_Value, .int .i64 x.f_Code] := ⟨rfl⟩
instance (yf_Label : Int) (yf_State : Int) (yf_Value : Int) (yf_Code : Int) : EncI e_api_Future (.agg #[.int .i64 yf_Label, .int .i64 yf_State, .int .i32 yf_Value, .int .i64 yf_Code]) ⟨yf_Label, yf_State, yf_Value, yf_Code⟩ := ⟨rfl⟩
instance : TyE Tryz.prog 113 e_api_Future := ⟨(inferInstance : TySz Tryz.prog 113 4)⟩
instance (H : List HProp) (x : S_api_Future) (a : Int) : EncU H e_api_Future x 0 (.int .i64 a) { x with f_Label := a } := ⟨fun _ _ => ⟨_, rfl, rfl⟩⟩
instance (H : List HProp) (x : S_api_Future) (a : Int) : EncU H e_api_Future x 1 (.int .i64 a) { x with f_State := a } := ⟨fun _ _ => ⟨_, rfl, rfl⟩⟩
instance (H : List HProp) (x : S_api_Future) (a : Int) : EncU H e_api_Future x 2 (.int .i32 a) { x with f_Value := a } := ⟨fun _ _ => ⟨_, rfl, rfl⟩⟩
instance (H : List HProp) (x : S_api_Future) (a : Int) : EncU H e_api_Future x 3 (.int .i64 a) { x with f_Code := a } := ⟨fun _ _ => ⟨_, rfl, rfl⟩⟩
structure S_confidantref15_Entry where
  f_Round : Int
  f_Task : S_api_Task
instance : Dfl S_confidantref15_Entry := ⟨⟨Dfl.d, Dfl.d⟩⟩
def e_confidantref15_Entry : Enc S_confidantref15_Entry := ⟨13, fun x => [.int .i64 x.f_Round, .int .i32 x.f_Task.f_Id, .int .i64 x.f_Task.f_Func, .int .i64 x.f_Task.f_Pc, x.f_Task.f_Stack, .int .i32 x.f_Task.f_Vars0, .int .i32 x.f_Task.f_Vars1, .int .i32 x.f_Task.f_Vars2, .int .i32 x.f_Task.f_Vars3, .int .i64 x.f_Task.f_Label, .int .i64 x.f_Task.f_Clear, .int .u32 x.f_Task.f_Privs, .int .i64 x.f_Task.f_Worker], fun _ => rfl⟩
instance : EncS e_confidantref15_Entry 13 := ⟨rfl⟩
instance (x : S_confidantref15_Entry) : EncC e_confidantref15_Entry x [.int .i64 x.f_Round, .int .i32 x.f_Task.f_Id, .int .i64 x.f_Task.f_Func, .int .i64 x.f_Task.f_Pc, x.f_Task.f_Stack, .int .i32 x.f_Task.f_Vars0, .int .i32 x.f_Task.f_Vars1, .int .i32 x.f_Task.f_Vars2, .int .i32 x.f_Task.f_Vars3, .int .i64 x.f_Task.f_Label, .int .i64 x.f_Task.f_Clear, .int .u32 x.f_Task.f_Privs, .int .i64 x.f_Task.f_Worker] := ⟨rfl⟩
instance (yf_Round : Int) (yf_Task_f_Id : Int) (yf_Task_f_Func : Int) (yf_Task_f_Pc : Int) (yf_Task_f_Stack : Value) (yf_Task_f_Vars0 : Int) (yf_Task_f_Vars1 : Int) (yf_Task_f_Vars2 : Int) (yf_Task_f_Vars3 : Int) (yf_Task_f_Label : Int) (yf_Task_f_Clear : Int) (yf_Task_f_Privs : Int) (yf_Task_f_Worker : Int) : EncI e_confidantref15_Entry (.agg #[.int .i64 yf_Round, .int .i32 yf_Task_f_Id, .int .i64 yf_Task_f_Func, .int .i64 yf_Task_f_Pc, yf_Task_f_Stack, .int .i32 yf_Task_f_Vars0, .int .i32 yf_Task_f_Vars1, .int .i32 yf_Task_f_Vars2, .int .i32 yf_Task_f_Vars3, .int .i64 yf_Task_f_Label, .int .i64 yf_Task_f_Clear, .int .u32 yf_Task_f_Privs, .int .i64 yf_Task_f_Worker]) ⟨yf_Round, ⟨yf_Task_f_Id, yf_Task_f_Func, yf_Task_f_Pc, yf_Task_f_Stack, yf_Task_f_Vars0, yf_Task_f_Vars1, yf_Task_f_Vars2, yf_Task_f_Vars3, yf_Task_f_Label, yf_Task_f_Clear, yf_Task_f_Privs, yf_Task_f_Worker⟩⟩ := ⟨rfl⟩
instance : TyE Tryz.prog 118 e_confidantref15_Entry := ⟨(inferInstance : TySz Tryz.prog 118 13)⟩
instance (H : List HProp) (x : S_confidantref15_Entry) (a : Int) : EncU H e_confidantref15_Entry x 0 (.int .i64 a) { x with f_Round := a } := ⟨fun _ _ => ⟨_, rfl, rfl⟩⟩
structure S_queue_Entry where
  f_Round : Int
  f_Task : S_api_Task
instance : Dfl S_queue_Entry := ⟨⟨Dfl.d, Dfl.d⟩⟩
def e_queue_Entry : Enc S_queue_Entry := ⟨13, fun x => [.int .i64 x.f_Round, .int .i32 x.f_Task.f_Id, .int .i64 x.f_Task.f_Func, .int .i64 x.f_Task.f_Pc, x.f_Task.f_Stack, .int .i32 x.f_Task.f_Vars0, .int .i32 x.f_Task.f_Vars1, .int .i32 x.f_Task.f_Vars2, .int .i32 x.f_Task.f_Vars3, .int .i64 x.f_Task.f_Label, .int .i64 x.f_Task.f_Clear, .int .u32 x.f_Task.f_Privs, .int .i64 x.f_Task.f_Worker], fun _ => rfl⟩
instance : EncS e_queue_Entry 13 := ⟨rfl⟩
instance (x : S_queue_Entry) : EncC e_queue_Entry x [.int .i64 x.f_Round, .int .i32 x.f_Task.f_Id, .int .i64 x.f_Task.f_Func, .int .i64 x.f_Task.f_Pc, x.f_Task.f_Stack, .int .i32 x.f_Task.f_Vars0, .int .i32 x.f_Task.f_Vars1, .int .i32 x.f_Task.f_Vars2, .int .i32 x.f_Task.f_Vars3, .int .i64 x.f_Task.f_Label, .int .i64 x.f_Task.f_Clear, .int .u32 x.f_Task.f_Privs, .int .i64 x.f_Task.f_Worker] := ⟨rfl⟩
instance (yf_Round : Int) (yf_Task_f_Id : Int) (yf_Task_f_Func : Int) (yf_Task_f_Pc : Int) (yf_Task_f_Stack : Value) (yf_Task_f_Vars0 : Int) (yf_Task_f_Vars1 : Int) (yf_Task_f_Vars2 : Int) (yf_Task_f_Vars3 : Int) (yf_Task_f_Label : Int) (yf_Task_f_Clear : Int) (yf_Task_f_Privs : Int) (yf_Task_f_Worker : Int) : EncI e_queue_Entry (.agg #[.int .i64 yf_Round, .int .i32 yf_Task_f_Id, .int .i64 yf_Task_f_Func, .int .i64 yf_Task_f_Pc, yf_Task_f_Stack, .int .i32 yf_Task_f_Vars0, .int .i32 yf_Task_f_Vars1, .int .i32 yf_Task_f_Vars2, .int .i32 yf_Task_f_Vars3, .int .i64 yf_Task_f_Label, .int .i64 yf_Task_f_Clear, .int .u32 yf_Task_f_Privs, .int .i64 yf_Task_f_Worker]) ⟨yf_Round, ⟨yf_Task_f_Id, yf_Task_f_Func, yf_Task_f_Pc, yf_Task_f_Stack, yf_Task_f_Vars0, yf_Task_f_Vars1, yf_Task_f_Vars2, yf_Task_f_Vars3, yf_Task_f_Label, yf_Task_f_Clear, yf_Task_f_Privs, yf_Task_f_Worker⟩⟩ := ⟨rfl⟩
instance : TyE Tryz.prog 120 e_queue_Entry := ⟨(inferInstance : TySz Tryz.prog 120 13)⟩
instance (H : List HProp) (x : S_queue_Entry) (a : Int) : EncU H e_queue_Entry x 0 (.int .i64 a) { x with f_Round := a } := ⟨fun _ _ => ⟨_, rfl, rfl⟩⟩
structure S_future_done where
  f_state : Int
  f_v : Int
  f_code : Int
  deriving DecidableEq
instance : Dfl S_future_done := ⟨⟨Dfl.d, Dfl.d, Dfl.d⟩⟩
def e_future_done : Enc S_future_done := ⟨3, fun x => [.int .i64 x.f_state, .int .i32 x.f_v, .int .i64 x.f_code], fun _ => rfl⟩
instance : EncS e_future_done 3 := ⟨rfl⟩
instance (x : S_future_done) : EncC e_future_done x [.int .i64 x.f_state, .int .i32 x.f_v, .int .i64 x.f_code] := ⟨rfl⟩
instance (yf_state : Int) (yf_v : Int) (yf_code : Int) : EncI e_future_done (.agg #[.int .i64 yf_state, .int .i32 yf_v, .int .i64 yf_code]) ⟨yf_state, yf_v, yf_code⟩ := ⟨rfl⟩
instance : TyE Tryz.prog 131 e_future_done := ⟨(inferInstance : TySz Tryz.prog 131 3)⟩
instance (H : List HProp) (x : S_future_done) (a : Int) : EncU H e_future_done x 0 (.int .i64 a) { x with f_state := a } := ⟨fun _ _ => ⟨_, rfl, rfl⟩⟩
instance (H : List HProp) (x : S_future_done) (a : Int) : EncU H e_future_done x 1 (.int .i32 a) { x with f_v := a } := ⟨fun _ _ => ⟨_, rfl, rfl⟩⟩
instance (H : List HProp) (x : S_future_done) (a : Int) : EncU H e_future_done x 2 (.int .i64 a) { x with f_code := a } := ⟨fun _ _ => ⟨_, rfl, rfl⟩⟩
structure S_confidantref15_Ring where
  f_Room : Int
  f_L : Value
instance : Dfl S_confidantref15_Ring := ⟨⟨Dfl.d, Dfl.d⟩⟩
def e_confidantref15_Ring : Enc S_confidantref15_Ring := ⟨2, fun x => [.int .i64 x.f_Room, x.f_L], fun _ => rfl⟩
instance : EncS e_confidantref15_Ring 2 := ⟨rfl⟩
instance (x : S_confidantref15_Ring) : EncC e_confidantref15_Ring x [.int .i64 x.f_Room, x.f_L] := ⟨rfl⟩
instance (yf_Room : Int) (yf_L : Value) : EncI e_confidantref15_Ring (.agg #[.int .i64 yf_Room, yf_L]) ⟨yf_Room, yf_L⟩ := ⟨rfl⟩
instance : TyE Tryz.prog 141 e_confidantref15_Ring := ⟨(inferInstance : TySz Tryz.prog 141 2)⟩
instance (H : List HProp) (x : S_confidantref15_Ring) (a : Int) : EncU H e_confidantref15_Ring x 0 (.int .i64 a) { x with f_Room := a } := ⟨fun _ _ => ⟨_, rfl, rfl⟩⟩
instance (priority := low) (H : List HProp) (x : S_confidantref15_Ring) (a : Value) [h : Fl1 H a] : EncU H e_confidantref15_Ring x 1 a { x with f_L := a } := ⟨fun w hw => ⟨[a], (h.f w hw).2, rfl⟩⟩
structure S_queue_Queue where
  f_l : Value
  f_n : Int
instance : Dfl S_queue_Queue := ⟨⟨Dfl.d, Dfl.d⟩⟩
def e_queue_Queue : Enc S_queue_Queue := ⟨2, fun x => [x.f_l, .int .i64 x.f_n], fun _ => rfl⟩
instance : EncS e_queue_Queue 2 := ⟨rfl⟩
instance (x : S_queue_Queue) : EncC e_queue_Queue x [x.f_l, .int .i64 x.f_n] := ⟨rfl⟩
instance (yf_l : Value) (yf_n : Int) : EncI e_queue_Queue (.agg #[yf_l, .int .i64 yf_n]) ⟨yf_l, yf_n⟩ := ⟨rfl⟩
instance : TyE Tryz.prog 148 e_queue_Queue := ⟨(inferInstance : TySz Tryz.prog 148 2)⟩
instance (priority := low) (H : List HProp) (x : S_queue_Queue) (a : Value) [h : Fl1 H a] : EncU H e_queue_Queue x 0 a { x with f_l := a } := ⟨fun w hw => ⟨[a], (h.f w hw).2, rfl⟩⟩
instance (H : List HProp) (x : S_queue_Queue) (a : Int) : EncU H e_queue_Queue x 1 (.int .i64 a) { x with f_n := a } := ⟨fun _ _ => ⟨_, rfl, rfl⟩⟩
structure S_park_Park where
  f_l : Value
instance : Dfl S_park_Park := ⟨⟨Dfl.d⟩⟩
def e_park_Park : Enc S_park_Park := ⟨1, fun x => [x.f_l], fun _ => rfl⟩
instance : EncS e_park_Park 1 := ⟨rfl⟩
instance (x : S_park_Park) : EncC e_park_Park x [x.f_l] := ⟨rfl⟩
instance (yf_l : Value) : EncI e_park_Park (.agg #[yf_l]) ⟨yf_l⟩ := ⟨rfl⟩
instance : TyE Tryz.prog 151 e_park_Park := ⟨(inferInstance : TySz Tryz.prog 151 1)⟩
instance (priority := low) (H : List HProp) (x : S_park_Park) (a : Value) [h : Fl1 H a] : EncU H e_park_Park x 0 a { x with f_l := a } := ⟨fun w hw => ⟨[a], (h.f w hw).2, rfl⟩⟩
structure S_picks_Picks where
  f_l : Value
  f_more : Value
instance : Dfl S_picks_Picks := ⟨⟨Dfl.d, Dfl.d⟩⟩
def e_picks_Picks : Enc S_picks_Picks := ⟨2, fun x => [x.f_l, x.f_more], fun _ => rfl⟩
instance : EncS e_picks_Picks 2 := ⟨rfl⟩
instance (x : S_picks_Picks) : EncC e_picks_Picks x [x.f_l, x.f_more] := ⟨rfl⟩
instance (yf_l : Value) (yf_more : Value) : EncI e_picks_Picks (.agg #[yf_l, yf_more]) ⟨yf_l, yf_more⟩ := ⟨rfl⟩
instance : TyE Tryz.prog 156 e_picks_Picks := ⟨(inferInstance : TySz Tryz.prog 156 2)⟩
instance (priority := low) (H : List HProp) (x : S_picks_Picks) (a : Value) [h : Fl1 H a] : EncU H e_picks_Picks x 0 a { x with f_l := a } := ⟨fun w hw => ⟨[a], (h.f w hw).2, rfl⟩⟩
instance (priority := low) (H : List HProp) (x : S_picks_Picks) (a : Value) [h : Fl1 H a] : EncU H e_picks_Picks x 1 a { x with f_more := a } := ⟨fun w hw => ⟨[a], (h.f w hw).2, rfl⟩⟩
structure S_ring_Ring where
  f_l : Value
  f_top : Int
  f_n : Int
instance : Dfl S_ring_Ring := ⟨⟨Dfl.d, Dfl.d, Dfl.d⟩⟩
def e_ring_Ring : Enc S_ring_Ring := ⟨3, fun x => [x.f_l, .int .i64 x.f_top, .int .i64 x.f_n], fun _ => rfl⟩
instance : EncS e_ring_Ring 3 := ⟨rfl⟩
instance (x : S_ring_Ring) : EncC e_ring_Ring x [x.f_l, .int .i64 x.f_top, .int .i64 x.f_n] := ⟨rfl⟩
instance (yf_l : Value) (yf_top : Int) (yf_n : Int) : EncI e_ring_Ring (.agg #[yf_l, .int .i64 yf_top, .int .i64 yf_n]) ⟨yf_l, yf_top, yf_n⟩ := ⟨rfl⟩
instance : TyE Tryz.prog 158 e_ring_Ring := ⟨(inferInstance : TySz Tryz.prog 158 3)⟩
instance (priority := low) (H : List HProp) (x : S_ring_Ring) (a : Value) [h : Fl1 H a] : EncU H e_ring_Ring x 0 a { x with f_l := a } := ⟨fun w hw => ⟨[a], (h.f w hw).2, rfl⟩⟩
instance (H : List HProp) (x : S_ring_Ring) (a : Int) : EncU H e_ring_Ring x 1 (.int .i64 a) { x with f_top := a } := ⟨fun _ _ => ⟨_, rfl, rfl⟩⟩
instance (H : List HProp) (x : S_ring_Ring) (a : Int) : EncU H e_ring_Ring x 2 (.int .i64 a) { x with f_n := a } := ⟨fun _ _ => ⟨_, rfl, rfl⟩⟩
structure S_confidantref15_Picks where
  f_L : Value
  f_S : Int
instance : Dfl S_confidantref15_Picks := ⟨⟨Dfl.d, Dfl.d⟩⟩
def e_confidantref15_Picks : Enc S_confidantref15_Picks := ⟨2, fun x => [x.f_L, .int .u64 x.f_S], fun _ => rfl⟩
instance : EncS e_confidantref15_Picks 2 := ⟨rfl⟩
instance (x : S_confidantref15_Picks) : EncC e_confidantref15_Picks x [x.f_L, .int .u64 x.f_S] := ⟨rfl⟩
instance (yf_L : Value) (yf_S : Int) : EncI e_confidantref15_Picks (.agg #[yf_L, .int .u64 yf_S]) ⟨yf_L, yf_S⟩ := ⟨rfl⟩
instance : TyE Tryz.prog 160 e_confidantref15_Picks := ⟨(inferInstance : TySz Tryz.prog 160 2)⟩
instance (priority := low) (H : List HProp) (x : S_confidantref15_Picks) (a : Value) [h : Fl1 H a] : EncU H e_confidantref15_Picks x 0 a { x with f_L := a } := ⟨fun w hw => ⟨[a], (h.f w hw).2, rfl⟩⟩
instance (H : List HProp) (x : S_confidantref15_Picks) (a : Int) : EncU H e_confidantref15_Picks x 1 (.int .u64 a) { x with f_S := a } := ⟨fun _ _ => ⟨_, rfl, rfl⟩⟩
structure S_queue_item where
  f_Entry : S_queue_Entry
  f_seq : Int
instance : Dfl S_queue_item := ⟨⟨Dfl.d, Dfl.d⟩⟩
def e_queue_item : Enc S_queue_item := ⟨14, fun x => [.int .i64 x.f_Entry.f_Round, .int .i32 x.f_Entry.f_Task.f_Id, .int .i64 x.f_Entry.f_Task.f_Func, .int .i64 x.f_Entry.f_Task.f_Pc, x.f_Entry.f_Task.f_Stack, .int .i32 x.f_Entry.f_Task.f_Vars0, .int .i32 x.f_Entry.f_Task.f_Vars1, .int .i32 x.f_Entry.f_Task.f_Vars2, .int .i32 x.f_Entry.f_Task.f_Vars3, .int .i64 x.f_Entry.f_Task.f_Label, .int .i64 x.f_Entry.f_Task.f_Clear, .int .u32 x.f_Entry.f_Task.f_Privs, .int .i64 x.f_Entry.f_Task.f_Worker, .int .i64 x.f_seq], fun _ => rfl⟩
instance : EncS e_queue_item 14 := ⟨rfl⟩
instance (x : S_queue_item) : EncC e_queue_item x [.int .i64 x.f_Entry.f_Round, .int .i32 x.f_Entry.f_Task.f_Id, .int .i64 x.f_Entry.f_Task.f_Func, .int .i64 x.f_Entry.f_Task.f_Pc, x.f_Entry.f_Task.f_Stack, .int .i32 x.f_Entry.f_Task.f_Vars0, .int .i32 x.f_Entry.f_Task.f_Vars1, .int .i32 x.f_Entry.f_Task.f_Vars2, .int .i32 x.f_Entry.f_Task.f_Vars3, .int .i64 x.f_Entry.f_Task.f_Label, .int .i64 x.f_Entry.f_Task.f_Clear, .int .u32 x.f_Entry.f_Task.f_Privs, .int .i64 x.f_Entry.f_Task.f_Worker, .int .i64 x.f_seq] := ⟨rfl⟩
instance (yf_Entry_f_Round : Int) (yf_Entry_f_Task_f_Id : Int) (yf_Entry_f_Task_f_Func : Int) (yf_Entry_f_Task_f_Pc : Int) (yf_Entry_f_Task_f_Stack : Value) (yf_Entry_f_Task_f_Vars0 : Int) (yf_Entry_f_Task_f_Vars1 : Int) (yf_Entry_f_Task_f_Vars2 : Int) (yf_Entry_f_Task_f_Vars3 : Int) (yf_Entry_f_Task_f_Label : Int) (yf_Entry_f_Task_f_Clear : Int) (yf_Entry_f_Task_f_Privs : Int) (yf_Entry_f_Task_f_Worker : Int) (yf_seq : Int) : EncI e_queue_item (.agg #[.int .i64 yf_Entry_f_Round, .int .i32 yf_Entry_f_Task_f_Id, .int .i64 yf_Entry_f_Task_f_Func, .int .i64 yf_Entry_f_Task_f_Pc, yf_Entry_f_Task_f_Stack, .int .i32 yf_Entry_f_Task_f_Vars0, .int .i32 yf_Entry_f_Task_f_Vars1, .int .i32 yf_Entry_f_Task_f_Vars2, .int .i32 yf_Entry_f_Task_f_Vars3, .int .i64 yf_Entry_f_Task_f_Label, .int .i64 yf_Entry_f_Task_f_Clear, .int .u32 yf_Entry_f_Task_f_Privs, .int .i64 yf_Entry_f_Task_f_Worker, .int .i64 yf_seq]) ⟨⟨yf_Entry_f_Round, ⟨yf_Entry_f_Task_f_Id, yf_Entry_f_Task_f_Func, yf_Entry_f_Task_f_Pc, yf_Entry_f_Task_f_Stack, yf_Entry_f_Task_f_Vars0, yf_Entry_f_Task_f_Vars1, yf_Entry_f_Task_f_Vars2, yf_Entry_f_Task_f_Vars3, yf_Entry_f_Task_f_Label, yf_Entry_f_Task_f_Clear, yf_Entry_f_Task_f_Privs, yf_Entry_f_Task_f_Worker⟩⟩, yf_seq⟩ := ⟨rfl⟩
instance : TyE Tryz.prog 167 e_queue_item := ⟨(inferInstance : TySz Tryz.prog 167 14)⟩
instance (H : List HProp) (x : S_queue_item) (a : Int) : EncU H e_queue_item x 13 (.int .i64 a) { x with f_seq := a } := ⟨fun _ _ => ⟨_, rfl, rfl⟩⟩
structure S_park_Waiting where
  f_Task : S_api_Task
  f_Future : Int
instance : Dfl S_park_Waiting := ⟨⟨Dfl.d, Dfl.d⟩⟩
def e_park_Waiting : Enc S_park_Waiting := ⟨13, fun x => [.int .i32 x.f_Task.f_Id, .int .i64 x.f_Task.f_Func, .int .i64 x.f_Task.f_Pc, x.f_Task.f_Stack, .int .i32 x.f_Task.f_Vars0, .int .i32 x.f_Task.f_Vars1, .int .i32 x.f_Task.f_Vars2, .int .i32 x.f_Task.f_Vars3, .int .i64 x.f_Task.f_Label, .int .i64 x.f_Task.f_Clear, .int .u32 x.f_Task.f_Privs, .int .i64 x.f_Task.f_Worker, .int .i32 x.f_Future], fun _ => rfl⟩
instance : EncS e_park_Waiting 13 := ⟨rfl⟩
instance (x : S_park_Waiting) : EncC e_park_Waiting x [.int .i32 x.f_Task.f_Id, .int .i64 x.f_Task.f_Func, .int .i64 x.f_Task.f_Pc, x.f_Task.f_Stack, .int .i32 x.f_Task.f_Vars0, .int .i32 x.f_Task.f_Vars1, .int .i32 x.f_Task.f_Vars2, .int .i32 x.f_Task.f_Vars3, .int .i64 x.f_Task.f_Label, .int .i64 x.f_Task.f_Clear, .int .u32 x.f_Task.f_Privs, .int .i64 x.f_Task.f_Worker, .int .i32 x.f_Future] := ⟨rfl⟩
instance (yf_Task_f_Id : Int) (yf_Task_f_Func : Int) (yf_Task_f_Pc : Int) (yf_Task_f_Stack : Value) (yf_Task_f_Vars0 : Int) (yf_Task_f_Vars1 : Int) (yf_Task_f_Vars2 : Int) (yf_Task_f_Vars3 : Int) (yf_Task_f_Label : Int) (yf_Task_f_Clear : Int) (yf_Task_f_Privs : Int) (yf_Task_f_Worker : Int) (yf_Future : Int) : EncI e_park_Waiting (.agg #[.int .i32 yf_Task_f_Id, .int .i64 yf_Task_f_Func, .int .i64 yf_Task_f_Pc, yf_Task_f_Stack, .int .i32 yf_Task_f_Vars0, .int .i32 yf_Task_f_Vars1, .int .i32 yf_Task_f_Vars2, .int .i32 yf_Task_f_Vars3, .int .i64 yf_Task_f_Label, .int .i64 yf_Task_f_Clear, .int .u32 yf_Task_f_Privs, .int .i64 yf_Task_f_Worker, .int .i32 yf_Future]) ⟨⟨yf_Task_f_Id, yf_Task_f_Func, yf_Task_f_Pc, yf_Task_f_Stack, yf_Task_f_Vars0, yf_Task_f_Vars1, yf_Task_f_Vars2, yf_Task_f_Vars3, yf_Task_f_Label, yf_Task_f_Clear, yf_Task_f_Privs, yf_Task_f_Worker⟩, yf_Future⟩ := ⟨rfl⟩
instance : TyE Tryz.prog 168 e_park_Waiting := ⟨(inferInstance : TySz Tryz.prog 168 13)⟩
instance (H : List HProp) (x : S_park_Waiting) (a : Int) : EncU H e_park_Waiting x 12 (.int .i32 a) { x with f_Future := a } := ⟨fun _ _ => ⟨_, rfl, rfl⟩⟩
structure S_rng_Rng where
  f_s : Int
  deriving DecidableEq
instance : Dfl S_rng_Rng := ⟨⟨Dfl.d⟩⟩
def e_rng_Rng : Enc S_rng_Rng := ⟨1, fun x => [.int .u64 x.f_s], fun _ => rfl⟩
instance : EncS e_rng_Rng 1 := ⟨rfl⟩
instance (x : S_rng_Rng) : EncC e_rng_Rng x [.int .u64 x.f_s] := ⟨rfl⟩
instance (yf_s : Int) : EncI e_rng_Rng (.agg #[.int .u64 yf_s]) ⟨yf_s⟩ := ⟨rfl⟩
instance : TyE Tryz.prog 181 e_rng_Rng := ⟨(inferInstance : TySz Tryz.prog 181 1)⟩
instance (H : List HProp) (x : S_rng_Rng) (a : Int) : EncU H e_rng_Rng x 0 (.int .u64 a) { x with f_s := a } := ⟨fun _ _ => ⟨_, rfl, rfl⟩⟩
instance : TyE Tryz.prog 1 eVal := ⟨(inferInstance : TySz Tryz.prog 1 1)⟩
instance : TyE Tryz.prog 2 (eInt .i64) := ⟨(inferInstance : TySz Tryz.prog 2 1)⟩
instance : TyE Tryz.prog 3 (eInt .i64) := ⟨(inferInstance : TySz Tryz.prog 3 1)⟩
instance : TyE Tryz.prog 4 eBool := ⟨(inferInstance : TySz Tryz.prog 4 1)⟩
instance : TyE Tryz.prog 5 (eInt .u8) := ⟨(inferInstance : TySz Tryz.prog 5 1)⟩
instance : TyE Tryz.prog 12 (eInt .u64) := ⟨(inferInstance : TySz Tryz.prog 12 1)⟩
instance : TyE Tryz.prog 21 (eInt .i32) := ⟨(inferInstance : TySz Tryz.prog 21 1)⟩
instance : TyE Tryz.prog 22 eVal := ⟨(inferInstance : TySz Tryz.prog 22 1)⟩
instance : TyE Tryz.prog 23 eVal := ⟨(inferInstance : TySz Tryz.prog 23 1)⟩
instance : TyE Tryz.prog 24 eVal := ⟨(inferInstance : TySz Tryz.prog 24 1)⟩
instance : TyE Tryz.prog 25 eVal := ⟨(inferInstance : TySz Tryz.prog 25 1)⟩
instance : TyE Tryz.prog 26 (eInt .u64) := ⟨(inferInstance : TySz Tryz.prog 26 1)⟩
instance : TyE Tryz.prog 29 eVal := ⟨(inferInstance : TySz Tryz.prog 29 1)⟩
instance : TyE Tryz.prog 30 ePtr := ⟨(inferInstance : TySz Tryz.prog 30 1)⟩
instance : TyE Tryz.prog 31 eVal := ⟨(inferInstance : TySz Tryz.prog 31 1)⟩
instance : TyE Tryz.prog 32 ePtr := ⟨(inferInstance : TySz Tryz.prog 32 1)⟩
instance : TyE Tryz.prog 33 eVal := ⟨(inferInstance : TySz Tryz.prog 33 1)⟩
instance : TyE Tryz.prog 34 ePtr := ⟨(inferInstance : TySz Tryz.prog 34 1)⟩
instance : TyE Tryz.prog 35 eVal := ⟨(inferInstance : TySz Tryz.prog 35 1)⟩
instance : TyE Tryz.prog 36 ePtr := ⟨(inferInstance : TySz Tryz.prog 36 1)⟩
instance : TyE Tryz.prog 37 eVal := ⟨(inferInstance : TySz Tryz.prog 37 1)⟩
instance : TyE Tryz.prog 39 eVal := ⟨(inferInstance : TySz Tryz.prog 39 1)⟩
instance : TyE Tryz.prog 43 (eInt .u32) := ⟨(inferInstance : TySz Tryz.prog 43 1)⟩
instance : TyE Tryz.prog 46 eVal := ⟨(inferInstance : TySz Tryz.prog 46 1)⟩
instance : TyE Tryz.prog 47 eVal := ⟨(inferInstance : TySz Tryz.prog 47 1)⟩
instance : TyE Tryz.prog 48 eVal := ⟨(inferInstance : TySz Tryz.prog 48 1)⟩
instance : TyE Tryz.prog 49 eVal := ⟨(inferInstance : TySz Tryz.prog 49 1)⟩
instance : TyE Tryz.prog 50 eVal := ⟨(inferInstance : TySz Tryz.prog 50 1)⟩
instance : TyE Tryz.prog 51 eVal := ⟨(inferInstance : TySz Tryz.prog 51 1)⟩
instance : TyE Tryz.prog 54 eVal := ⟨(inferInstance : TySz Tryz.prog 54 1)⟩
instance : TyE Tryz.prog 57 ePtr := ⟨(inferInstance : TySz Tryz.prog 57 1)⟩
instance : TyE Tryz.prog 60 eVal := ⟨(inferInstance : TySz Tryz.prog 60 1)⟩
instance : TyE Tryz.prog 63 eVal := ⟨(inferInstance : TySz Tryz.prog 63 1)⟩
instance : TyE Tryz.prog 65 eVal := ⟨(inferInstance : TySz Tryz.prog 65 1)⟩
instance : TyE Tryz.prog 66 eVal := ⟨(inferInstance : TySz Tryz.prog 66 1)⟩
instance : TyE Tryz.prog 67 eVal := ⟨(inferInstance : TySz Tryz.prog 67 1)⟩
instance : TyE Tryz.prog 68 eVal := ⟨(inferInstance : TySz Tryz.prog 68 1)⟩
instance : TyE Tryz.prog 70 eVal := ⟨(inferInstance : TySz Tryz.prog 70 1)⟩
instance : TyE Tryz.prog 71 eVal := ⟨(inferInstance : TySz Tryz.prog 71 1)⟩
instance : TyE Tryz.prog 73 eVal := ⟨(inferInstance : TySz Tryz.prog 73 1)⟩
instance : TyE Tryz.prog 74 eVal := ⟨(inferInstance : TySz Tryz.prog 74 1)⟩
instance : TyE Tryz.prog 75 eVal := ⟨(inferInstance : TySz Tryz.prog 75 1)⟩
instance : TyE Tryz.prog 76 eVal := ⟨(inferInstance : TySz Tryz.prog 76 1)⟩
instance : TyE Tryz.prog 77 eVal := ⟨(inferInstance : TySz Tryz.prog 77 1)⟩
instance : TyE Tryz.prog 79 eVal := ⟨(inferInstance : TySz Tryz.prog 79 1)⟩
instance : TyE Tryz.prog 82 eVal := ⟨(inferInstance : TySz Tryz.prog 82 1)⟩
instance : TyE Tryz.prog 83 eVal := ⟨(inferInstance : TySz Tryz.prog 83 1)⟩
instance : TyE Tryz.prog 84 eVal := ⟨(inferInstance : TySz Tryz.prog 84 1)⟩
instance : TyE Tryz.prog 85 (eInt .u64) := ⟨(inferInstance : TySz Tryz.prog 85 1)⟩
instance : TyE Tryz.prog 86 ePtr := ⟨(inferInstance : TySz Tryz.prog 86 1)⟩
instance : TyE Tryz.prog 87 eVal := ⟨(inferInstance : TySz Tryz.prog 87 1)⟩
instance : TyE Tryz.prog 88 ePtr := ⟨(inferInstance : TySz Tryz.prog 88 1)⟩
instance : TyE Tryz.prog 89 eVal := ⟨(inferInstance : TySz Tryz.prog 89 1)⟩
instance : TyE Tryz.prog 90 ePtr := ⟨(inferInstance : TySz Tryz.prog 90 1)⟩
instance : TyE Tryz.prog 91 eVal := ⟨(inferInstance : TySz Tryz.prog 91 1)⟩
instance : TyE Tryz.prog 92 eVal := ⟨(inferInstance : TySz Tryz.prog 92 1)⟩
instance : TyE Tryz.prog 95 ePtr := ⟨(inferInstance : TySz Tryz.prog 95 1)⟩
instance : TyE Tryz.prog 96 ePtr := ⟨(inferInstance : TySz Tryz.prog 96 1)⟩
instance : TyE Tryz.prog 97 eVal := ⟨(inferInstance : TySz Tryz.prog 97 1)⟩
instance : TyE Tryz.prog 100 eVal := ⟨(inferInstance : TySz Tryz.prog 100 1)⟩
instance : TyE Tryz.prog 101 ePtr := ⟨(inferInstance : TySz Tryz.prog 101 1)⟩
instance : TyE Tryz.prog 102 eVal := ⟨(inferInstance : TySz Tryz.prog 102 1)⟩
instance : TyE Tryz.prog 103 eVal := ⟨(inferInstance : TySz Tryz.prog 103 1)⟩
instance : TyE Tryz.prog 104 eVal := ⟨(inferInstance : TySz Tryz.prog 104 1)⟩
instance : TyE Tryz.prog 107 eVal := ⟨(inferInstance : TySz Tryz.prog 107 1)⟩
instance : TyE Tryz.prog 110 eVal := ⟨(inferInstance : TySz Tryz.prog 110 1)⟩
instance : TyE Tryz.prog 111 (eInt .i64) := ⟨(inferInstance : TySz Tryz.prog 111 1)⟩
instance : TyE Tryz.prog 114 eVal := ⟨(inferInstance : TySz Tryz.prog 114 1)⟩
instance : TyE Tryz.prog 115 eVal := ⟨(inferInstance : TySz Tryz.prog 115 1)⟩
instance : TyE Tryz.prog 116 ePtr := ⟨(inferInstance : TySz Tryz.prog 116 1)⟩
instance : TyE Tryz.prog 119 eVal := ⟨(inferInstance : TySz Tryz.prog 119 1)⟩
instance : TyE Tryz.prog 122 eVal := ⟨(inferInstance : TySz Tryz.prog 122 1)⟩
instance : TyE Tryz.prog 123 eVal := ⟨(inferInstance : TySz Tryz.prog 123 1)⟩
instance : TyE Tryz.prog 125 eVal := ⟨(inferInstance : TySz Tryz.prog 125 1)⟩
instance : TyE Tryz.prog 126 eVal := ⟨(inferInstance : TySz Tryz.prog 126 1)⟩
instance : TyE Tryz.prog 127 eVal := ⟨(inferInstance : TySz Tryz.prog 127 1)⟩
instance : TyE Tryz.prog 128 eVal := ⟨(inferInstance : TySz Tryz.prog 128 1)⟩
instance : TyE Tryz.prog 129 eVal := ⟨(inferInstance : TySz Tryz.prog 129 1)⟩
instance : TyE Tryz.prog 132 eVal := ⟨(inferInstance : TySz Tryz.prog 132 1)⟩
instance : TyE Tryz.prog 134 eVal := ⟨(inferInstance : TySz Tryz.prog 134 1)⟩
instance : TyE Tryz.prog 135 eVal := ⟨(inferInstance : TySz Tryz.prog 135 1)⟩
instance : TyE Tryz.prog 136 eVal := ⟨(inferInstance : TySz Tryz.prog 136 1)⟩
instance : TyE Tryz.prog 137 eVal := ⟨(inferInstance : TySz Tryz.prog 137 1)⟩
instance : TyE Tryz.prog 138 eVal := ⟨(inferInstance : TySz Tryz.prog 138 1)⟩
instance : TyE Tryz.prog 139 eVal := ⟨(inferInstance : TySz Tryz.prog 139 1)⟩
instance : TyE Tryz.prog 142 eVal := ⟨(inferInstance : TySz Tryz.prog 142 1)⟩
instance : TyE Tryz.prog 143 eVal := ⟨(inferInstance : TySz Tryz.prog 143 1)⟩
instance : TyE Tryz.prog 144 eVal := ⟨(inferInstance : TySz Tryz.prog 144 1)⟩
instance : TyE Tryz.prog 145 eVal := ⟨(inferInstance : TySz Tryz.prog 145 1)⟩
instance : TyE Tryz.prog 146 eVal := ⟨(inferInstance : TySz Tryz.prog 146 1)⟩
instance : TyE Tryz.prog 149 eVal := ⟨(inferInstance : TySz Tryz.prog 149 1)⟩
instance : TyE Tryz.prog 152 eVal := ⟨(inferInstance : TySz Tryz.prog 152 1)⟩
instance : TyE Tryz.prog 153 ePtr := ⟨(inferInstance : TySz Tryz.prog 153 1)⟩
instance : TyE Tryz.prog 154 eVal := ⟨(inferInstance : TySz Tryz.prog 154 1)⟩
instance : TyE Tryz.prog 161 ePtr := ⟨(inferInstance : TySz Tryz.prog 161 1)⟩
instance : TyE Tryz.prog 162 eVal := ⟨(inferInstance : TySz Tryz.prog 162 1)⟩
instance : TyE Tryz.prog 163 eVal := ⟨(inferInstance : TySz Tryz.prog 163 1)⟩
instance : TyE Tryz.prog 164 ePtr := ⟨(inferInstance : TySz Tryz.prog 164 1)⟩
instance : TyE Tryz.prog 165 eVal := ⟨(inferInstance : TySz Tryz.prog 165 1)⟩
instance : TyE Tryz.prog 169 eVal := ⟨(inferInstance : TySz Tryz.prog 169 1)⟩
instance : TyE Tryz.prog 170 eVal := ⟨(inferInstance : TySz Tryz.prog 170 1)⟩
instance : TyE Tryz.prog 171 ePtr := ⟨(inferInstance : TySz Tryz.prog 171 1)⟩
instance : TyE Tryz.prog 172 eVal := ⟨(inferInstance : TySz Tryz.prog 172 1)⟩
instance : TyE Tryz.prog 174 eVal := ⟨(inferInstance : TySz Tryz.prog 174 1)⟩
instance : TyE Tryz.prog 175 eVal := ⟨(inferInstance : TySz Tryz.prog 175 1)⟩
instance : TyE Tryz.prog 176 eVal := ⟨(inferInstance : TySz Tryz.prog 176 1)⟩
instance : TyE Tryz.prog 177 ePtr := ⟨(inferInstance : TySz Tryz.prog 177 1)⟩
instance : TyE Tryz.prog 178 eVal := ⟨(inferInstance : TySz Tryz.prog 178 1)⟩
instance : TyE Tryz.prog 179 eVal := ⟨(inferInstance : TySz Tryz.prog 179 1)⟩
instance : TyE Tryz.prog 182 eVal := ⟨(inferInstance : TySz Tryz.prog 182 1)⟩
instance : TyE Tryz.prog 185 eVal := ⟨(inferInstance : TySz Tryz.prog 185 1)⟩
instance : TyE Tryz.prog 186 eVal := ⟨(inferInstance : TySz Tryz.prog 186 1)⟩
instance : TyE Tryz.prog 187 eVal := ⟨(inferInstance : TySz Tryz.prog 187 1)⟩
instance : TyE Tryz.prog 188 eVal := ⟨(inferInstance : TySz Tryz.prog 188 1)⟩
instance : TyE Tryz.prog 189 eVal := ⟨(inferInstance : TySz Tryz.prog 189 1)⟩
instance : TyE Tryz.prog 190 eVal := ⟨(inferInstance : TySz Tryz.prog 190 1)⟩
instance : TyE Tryz.prog 191 eVal := ⟨(inferInstance : TySz Tryz.prog 191 1)⟩
instance : TyE Tryz.prog 192 eVal := ⟨(inferInstance : TySz Tryz.prog 192 1)⟩
instance : TyE Tryz.prog 193 eVal := ⟨(inferInstance : TySz Tryz.prog 193 1)⟩
instance : TyE Tryz.prog 194 eVal := ⟨(inferInstance : TySz Tryz.prog 194 1)⟩
instance : TyE Tryz.prog 195 eVal := ⟨(inferInstance : TySz Tryz.prog 195 1)⟩
instance : TyE Tryz.prog 196 eVal := ⟨(inferInstance : TySz Tryz.prog 196 1)⟩
instance : TyE Tryz.prog 205 ePtr := ⟨(inferInstance : TySz Tryz.prog 205 1)⟩
instance : TyE Tryz.prog 210 eVal := ⟨(inferInstance : TySz Tryz.prog 210 1)⟩
instance : TyE Tryz.prog 211 eVal := ⟨(inferInstance : TySz Tryz.prog 211 1)⟩
instance : TyE Tryz.prog 212 eVal := ⟨(inferInstance : TySz Tryz.prog 212 1)⟩
instance : TyE Tryz.prog 213 eVal := ⟨(inferInstance : TySz Tryz.prog 213 1)⟩
instance : TyE Tryz.prog 214 eVal := ⟨(inferInstance : TySz Tryz.prog 214 1)⟩
instance : TyE Tryz.prog 215 eVal := ⟨(inferInstance : TySz Tryz.prog 215 1)⟩
structure S_A4_int32 where
  e0 : Int
  e1 : Int
  e2 : Int
  e3 : Int
  deriving DecidableEq
instance : Dfl S_A4_int32 := ⟨⟨Dfl.d, Dfl.d, Dfl.d, Dfl.d⟩⟩
def e_A4_int32 : Enc S_A4_int32 := ⟨4, fun x => [.int .i32 x.e0, .int .i32 x.e1, .int .i32 x.e2, .int .i32 x.e3], fun _ => rfl⟩
instance : EncS e_A4_int32 4 := ⟨rfl⟩
instance (x : S_A4_int32) : EncC e_A4_int32 x [.int .i32 x.e0, .int .i32 x.e1, .int .i32 x.e2, .int .i32 x.e3] := ⟨rfl⟩
instance (y0 : Int) (y1 : Int) (y2 : Int) (y3 : Int) : EncI e_A4_int32 (.agg #[.int .i32 y0, .int .i32 y1, .int .i32 y2, .int .i32 y3]) ⟨y0, y1, y2, y3⟩ := ⟨rfl⟩
instance : TyE Tryz.prog 42 e_A4_int32 := ⟨(inferInstance : TySz Tryz.prog 42 4)⟩
instance : EqG Tryz.prog 42 := ⟨by kernel_rfl, by kernel_rfl⟩
instance : EqT Tryz.prog 42 (kS e_A4_int32) 2 := ⟨fun d hd x y w => by
  obtain ⟨d, rfl⟩ : ∃ e, d = e + 1 := ⟨d - 1, by omega⟩
  refine (eqArray Tryz.underlying42 inferInstance (bs := [decide (x.e0 = y.e0), decide (x.e1 = y.e1), decide (x.e2 = y.e2), decide (x.e3 = y.e3)]) ?_).trans ?_
  · exact (EqAs.cons (t := 21) (V := (kI .i32)) (a := x.e0) (b := y.e0) (by omega) ((inferInstance : LiesL Tryz.prog 21 [.int .i32 x.e0, .int .i32 x.e1, .int .i32 x.e2, .int .i32 x.e3] 0 (.int .i32 x.e0)).lies) ((inferInstance : LiesL Tryz.prog 21 [.int .i32 y.e0, .int .i32 y.e1, .int .i32 y.e2, .int .i32 y.e3] 0 (.int .i32 y.e0)).lies) (EqAs.cons (t := 21) (V := (kI .i32)) (a := x.e1) (b := y.e1) (by omega) ((inferInstance : LiesL Tryz.prog 21 [.int .i32 x.e0, .int .i32 x.e1, .int .i32 x.e2, .int .i32 x.e3] 1 (.int .i32 x.e1)).lies) ((inferInstance : LiesL Tryz.prog 21 [.int .i32 y.e0, .int .i32 y.e1, .int .i32 y.e2, .int .i32 y.e3] 1 (.int .i32 y.e1)).lies) (EqAs.cons (t := 21) (V := (kI .i32)) (a := x.e2) (b := y.e2) (by omega) ((inferInstance : LiesL Tryz.prog 21 [.int .i32 x.e0, .int .i32 x.e1, .int .i32 x.e2, .int .i32 x.e3] 2 (.int .i32 x.e2)).lies) ((inferInstance : LiesL Tryz.prog 21 [.int .i32 y.e0, .int .i32 y.e1, .int .i32 y.e2, .int .i32 y.e3] 2 (.int .i32 y.e2)).lies) (EqAs.cons (t := 21) (V := (kI .i32)) (a := x.e3) (b := y.e3) (by omega) ((inferInstance : LiesL Tryz.prog 21 [.int .i32 x.e0, .int .i32 x.e1, .int .i32 x.e2, .int .i32 x.e3] 3 (.int .i32 x.e3)).lies) ((inferInstance : LiesL Tryz.prog 21 [.int .i32 y.e0, .int .i32 y.e1, .int .i32 y.e2, .int .i32 y.e3] 3 (.int .i32 y.e3)).lies) trivial))))
  · cases x; cases y; simp only [Result.ok.injEq, and_true]; rw [Bool.eq_iff_iff]; simp⟩
def ok_A4_int32 : World → S_A4_int32 → Prop := fun w x => okI .i32 w x.e0 ∧ okI .i32 w x.e1 ∧ okI .i32 w x.e2 ∧ okI .i32 w x.e3
instance : Rd Tryz.prog 42 e_A4_int32 ok_A4_int32 := ⟨fun {H enc w fuel cs x} h => by
  obtain ⟨xs, m, _, _, hl, hlen, hf⟩ := DataW.trod_array Tryz.underlying42 h
  rw [cellsOf_of (n := 4)] at hl
  match cs, hl with
  | [c0, c1, c2, c3], _ =>
    obtain ⟨y0, e0, k0, l0⟩ := Rd.elt (P := Tryz.prog) (t' := 21) hf hlen 0 (by omega) 0 rfl
    replace e0 : [c0] = [.int .i32 y0] := e0
    replace l0 : ∀ c, c ∈ [c0] → fl c = true := l0
    obtain ⟨y1, e1, k1, l1⟩ := Rd.elt (P := Tryz.prog) (t' := 21) hf hlen 1 (by omega) 1 rfl
    replace e1 : [c1] = [.int .i32 y1] := e1
    replace l1 : ∀ c, c ∈ [c1] → fl c = true := l1
    obtain ⟨y2, e2, k2, l2⟩ := Rd.elt (P := Tryz.prog) (t' := 21) hf hlen 2 (by omega) 2 rfl
    replace e2 : [c2] = [.int .i32 y2] := e2
    replace l2 : ∀ c, c ∈ [c2] → fl c = true := l2
    obtain ⟨y3, e3, k3, l3⟩ := Rd.elt (P := Tryz.prog) (t' := 21) hf hlen 3 (by omega) 3 rfl
    replace e3 : [c3] = [.int .i32 y3] := e3
    replace l3 : ∀ c, c ∈ [c3] → fl c = true := l3
    have q0 := (List.cons.inj e0).1.symm; subst q0
    have q1 := (List.cons.inj e1).1.symm; subst q1
    have q2 := (List.cons.inj e2).1.symm; subst q2
    have q3 := (List.cons.inj e3).1.symm; subst q3
    refine ⟨⟨y0, y1, y2, y3⟩, rfl, ⟨k0, k1, k2, k3⟩, fun c hc => ?_⟩
    simp only [List.mem_cons, List.not_mem_nil, or_false] at hc
    rcases hc with rfl | rfl | rfl | rfl
    · exact l0 _ (by simp)
    · exact l1 _ (by simp)
    · exact l2 _ (by simp)
    · exact l3 _ (by simp)⟩
def ok_api_Part : World → S_api_Part → Prop := fun w x => okI .i64 w x.f_Ring ∧ okB w x.f_Half ∧ okI .i64 w x.f_Fuel ∧ okI .i64 w x.f_Refs ∧ okI .i64 w x.f_Futures ∧ (okS (eInt .i32) (okI .i32)) w x.f_Inputs ∧ (okS (eInt .u8) (okI .u8)) w x.f_Picks ∧ okI .u64 w x.f_Seed
instance : Rd Tryz.prog 28 e_api_Part ok_api_Part := ⟨fun {H enc w fuel cs x} h => by
  obtain ⟨xs, m, _, _, hl, hlen, hf⟩ := DataW.trod_struct Tryz.underlying28 h
  rw [cellsOf_of (n := 8)] at hl
  match cs, hl with
  | [c0, c1, c2, c3, c4, c5, c6, c7], _ =>
    obtain ⟨y0, e0, k0, l0⟩ := Rd.fld (P := Tryz.prog) (t' := 3) hf hlen 0 _ rfl rfl 0 rfl
    replace e0 : [c0] = [.int .i64 y0] := e0
    replace l0 : ∀ c, c ∈ [c0] → fl c = true := l0
    obtain ⟨y1, e1, k1, l1⟩ := Rd.fld (P := Tryz.prog) (t' := 4) hf hlen 1 _ rfl rfl 1 rfl
    replace e1 : [c1] = [.bool y1] := e1
    replace l1 : ∀ c, c ∈ [c1] → fl c = true := l1
    obtain ⟨y2, e2, k2, l2⟩ := Rd.fld (P := Tryz.prog) (t' := 3) hf hlen 2 _ rfl rfl 2 rfl
    replace e2 : [c2] = [.int .i64 y2] := e2
    replace l2 : ∀ c, c ∈ [c2] → fl c = true := l2
    obtain ⟨y3, e3, k3, l3⟩ := Rd.fld (P := Tryz.prog) (t' := 3) hf hlen 3 _ rfl rfl 3 rfl
    replace e3 : [c3] = [.int .i64 y3] := e3
    replace l3 : ∀ c, c ∈ [c3] → fl c = true := l3
    obtain ⟨y4, e4, k4, l4⟩ := Rd.fld (P := Tryz.prog) (t' := 3) hf hlen 4 _ rfl rfl 4 rfl
    replace e4 : [c4] = [.int .i64 y4] := e4
    replace l4 : ∀ c, c ∈ [c4] → fl c = true := l4
    obtain ⟨y5, e5, k5, l5⟩ := Rd.fld (P := Tryz.prog) (t' := 24) hf hlen 5 _ rfl rfl 5 rfl
    replace e5 : [c5] = [y5] := e5
    replace l5 : ∀ c, c ∈ [c5] → fl c = true := l5
    obtain ⟨y6, e6, k6, l6⟩ := Rd.fld (P := Tryz.prog) (t' := 25) hf hlen 6 _ rfl rfl 6 rfl
    replace e6 : [c6] = [y6] := e6
    replace l6 : ∀ c, c ∈ [c6] → fl c = true := l6
    obtain ⟨y7, e7, k7, l7⟩ := Rd.fld (P := Tryz.prog) (t' := 26) hf hlen 7 _ rfl rfl 7 rfl
    replace e7 : [c7] = [.int .u64 y7] := e7
    replace l7 : ∀ c, c ∈ [c7] → fl c = true := l7
    have q0 := (List.cons.inj e0).1.symm; subst q0
    have q1 := (List.cons.inj e1).1.symm; subst q1
    have q2 := (List.cons.inj e2).1.symm; subst q2
    have q3 := (List.cons.inj e3).1.symm; subst q3
    have q4 := (List.cons.inj e4).1.symm; subst q4
    have q5 := (List.cons.inj e5).1.symm; subst q5
    have q6 := (List.cons.inj e6).1.symm; subst q6
    have q7 := (List.cons.inj e7).1.symm; subst q7
    refine ⟨⟨y0, y1, y2, y3, y4, y5, y6, y7⟩, rfl, ⟨k0, k1, k2, k3, k4, k5, k6, k7⟩, fun c hc => ?_⟩
    simp only [List.mem_cons, List.not_mem_nil, or_false] at hc
    rcases hc with rfl | rfl | rfl | rfl | rfl | rfl | rfl | rfl
    · exact l0 _ (by simp)
    · exact l1 _ (by simp)
    · exact l2 _ (by simp)
    · exact l3 _ (by simp)
    · exact l4 _ (by simp)
    · exact l5 _ (by simp)
    · exact l6 _ (by simp)
    · exact l7 _ (by simp)⟩
def ok_confidantlaw24_Act : World → S_confidantlaw24_Act → Prop := fun w x => okI .u8 w x.f_What ∧ okI .u8 w x.f_W ∧ okI .u8 w x.f_N ∧ okI .u8 w x.f_F
instance : Rd Tryz.prog 41 e_confidantlaw24_Act ok_confidantlaw24_Act := ⟨fun {H enc w fuel cs x} h => by
  obtain ⟨xs, m, _, _, hl, hlen, hf⟩ := DataW.trod_struct Tryz.underlying41 h
  rw [cellsOf_of (n := 4)] at hl
  match cs, hl with
  | [c0, c1, c2, c3], _ =>
    obtain ⟨y0, e0, k0, l0⟩ := Rd.fld (P := Tryz.prog) (t' := 5) hf hlen 0 _ rfl rfl 0 rfl
    replace e0 : [c0] = [.int .u8 y0] := e0
    replace l0 : ∀ c, c ∈ [c0] → fl c = true := l0
    obtain ⟨y1, e1, k1, l1⟩ := Rd.fld (P := Tryz.prog) (t' := 5) hf hlen 1 _ rfl rfl 1 rfl
    replace e1 : [c1] = [.int .u8 y1] := e1
    replace l1 : ∀ c, c ∈ [c1] → fl c = true := l1
    obtain ⟨y2, e2, k2, l2⟩ := Rd.fld (P := Tryz.prog) (t' := 5) hf hlen 2 _ rfl rfl 2 rfl
    replace e2 : [c2] = [.int .u8 y2] := e2
    replace l2 : ∀ c, c ∈ [c2] → fl c = true := l2
    obtain ⟨y3, e3, k3, l3⟩ := Rd.fld (P := Tryz.prog) (t' := 5) hf hlen 3 _ rfl rfl 3 rfl
    replace e3 : [c3] = [.int .u8 y3] := e3
    replace l3 : ∀ c, c ∈ [c3] → fl c = true := l3
    have q0 := (List.cons.inj e0).1.symm; subst q0
    have q1 := (List.cons.inj e1).1.symm; subst q1
    have q2 := (List.cons.inj e2).1.symm; subst q2
    have q3 := (List.cons.inj e3).1.symm; subst q3
    refine ⟨⟨y0, y1, y2, y3⟩, rfl, ⟨k0, k1, k2, k3⟩, fun c hc => ?_⟩
    simp only [List.mem_cons, List.not_mem_nil, or_false] at hc
    rcases hc with rfl | rfl | rfl | rfl
    · exact l0 _ (by simp)
    · exact l1 _ (by simp)
    · exact l2 _ (by simp)
    · exact l3 _ (by simp)⟩
def ok_api_Event : World → S_api_Event → Prop := fun w x => okI .i64 w x.f_Round ∧ okI .i64 w x.f_Label ∧ okI .i64 w x.f_Kind ∧ okI .i64 w x.f_Worker ∧ okI .i32 w x.f_Task ∧ okI .i32 w x.f_A ∧ okI .i32 w x.f_B
instance : Rd Tryz.prog 81 e_api_Event ok_api_Event := ⟨fun {H enc w fuel cs x} h => by
  obtain ⟨xs, m, _, _, hl, hlen, hf⟩ := DataW.trod_struct Tryz.underlying81 h
  rw [cellsOf_of (n := 7)] at hl
  match cs, hl with
  | [c0, c1, c2, c3, c4, c5, c6], _ =>
    obtain ⟨y0, e0, k0, l0⟩ := Rd.fld (P := Tryz.prog) (t' := 3) hf hlen 0 _ rfl rfl 0 rfl
    replace e0 : [c0] = [.int .i64 y0] := e0
    replace l0 : ∀ c, c ∈ [c0] → fl c = true := l0
    obtain ⟨y1, e1, k1, l1⟩ := Rd.fld (P := Tryz.prog) (t' := 3) hf hlen 1 _ rfl rfl 1 rfl
    replace e1 : [c1] = [.int .i64 y1] := e1
    replace l1 : ∀ c, c ∈ [c1] → fl c = true := l1
    obtain ⟨y2, e2, k2, l2⟩ := Rd.fld (P := Tryz.prog) (t' := 3) hf hlen 2 _ rfl rfl 2 rfl
    replace e2 : [c2] = [.int .i64 y2] := e2
    replace l2 : ∀ c, c ∈ [c2] → fl c = true := l2
    obtain ⟨y3, e3, k3, l3⟩ := Rd.fld (P := Tryz.prog) (t' := 3) hf hlen 3 _ rfl rfl 3 rfl
    replace e3 : [c3] = [.int .i64 y3] := e3
    replace l3 : ∀ c, c ∈ [c3] → fl c = true := l3
    obtain ⟨y4, e4, k4, l4⟩ := Rd.fld (P := Tryz.prog) (t' := 21) hf hlen 4 _ rfl rfl 4 rfl
    replace e4 : [c4] = [.int .i32 y4] := e4
    replace l4 : ∀ c, c ∈ [c4] → fl c = true := l4
    obtain ⟨y5, e5, k5, l5⟩ := Rd.fld (P := Tryz.prog) (t' := 21) hf hlen 5 _ rfl rfl 5 rfl
    replace e5 : [c5] = [.int .i32 y5] := e5
    replace l5 : ∀ c, c ∈ [c5] → fl c = true := l5
    obtain ⟨y6, e6, k6, l6⟩ := Rd.fld (P := Tryz.prog) (t' := 21) hf hlen 6 _ rfl rfl 6 rfl
    replace e6 : [c6] = [.int .i32 y6] := e6
    replace l6 : ∀ c, c ∈ [c6] → fl c = true := l6
    have q0 := (List.cons.inj e0).1.symm; subst q0
    have q1 := (List.cons.inj e1).1.symm; subst q1
    have q2 := (List.cons.inj e2).1.symm; subst q2
    have q3 := (List.cons.inj e3).1.symm; subst q3
    have q4 := (List.cons.inj e4).1.symm; subst q4
    have q5 := (List.cons.inj e5).1.symm; subst q5
    have q6 := (List.cons.inj e6).1.symm; subst q6
    refine ⟨⟨y0, y1, y2, y3, y4, y5, y6⟩, rfl, ⟨k0, k1, k2, k3, k4, k5, k6⟩, fun c hc => ?_⟩
    simp only [List.mem_cons, List.not_mem_nil, or_false] at hc
    rcases hc with rfl | rfl | rfl | rfl | rfl | rfl | rfl
    · exact l0 _ (by simp)
    · exact l1 _ (by simp)
    · exact l2 _ (by simp)
    · exact l3 _ (by simp)
    · exact l4 _ (by simp)
    · exact l5 _ (by simp)
    · exact l6 _ (by simp)⟩
def ok_api_Future : World → S_api_Future → Prop := fun w x => okI .i64 w x.f_Label ∧ okI .i64 w x.f_State ∧ okI .i32 w x.f_Value ∧ okI .i64 w x.f_Code
instance : Rd Tryz.prog 113 e_api_Future ok_api_Future := ⟨fun {H enc w fuel cs x} h => by
  obtain ⟨xs, m, _, _, hl, hlen, hf⟩ := DataW.trod_struct Tryz.underlying113 h
  rw [cellsOf_of (n := 4)] at hl
  match cs, hl with
  | [c0, c1, c2, c3], _ =>
    obtain ⟨y0, e0, k0, l0⟩ := Rd.fld (P := Tryz.prog) (t' := 3) hf hlen 0 _ rfl rfl 0 rfl
    replace e0 : [c0] = [.int .i64 y0] := e0
    replace l0 : ∀ c, c ∈ [c0] → fl c = true := l0
    obtain ⟨y1, e1, k1, l1⟩ := Rd.fld (P := Tryz.prog) (t' := 3) hf hlen 1 _ rfl rfl 1 rfl
    replace e1 : [c1] = [.int .i64 y1] := e1
    replace l1 : ∀ c, c ∈ [c1] → fl c = true := l1
    obtain ⟨y2, e2, k2, l2⟩ := Rd.fld (P := Tryz.prog) (t' := 21) hf hlen 2 _ rfl rfl 2 rfl
    replace e2 : [c2] = [.int .i32 y2] := e2
    replace l2 : ∀ c, c ∈ [c2] → fl c = true := l2
    obtain ⟨y3, e3, k3, l3⟩ := Rd.fld (P := Tryz.prog) (t' := 111) hf hlen 3 _ rfl rfl 3 rfl
    replace e3 : [c3] = [.int .i64 y3] := e3
    replace l3 : ∀ c, c ∈ [c3] → fl c = true := l3
    have q0 := (List.cons.inj e0).1.symm; subst q0
    have q1 := (List.cons.inj e1).1.symm; subst q1
    have q2 := (List.cons.inj e2).1.symm; subst q2
    have q3 := (List.cons.inj e3).1.symm; subst q3
    refine ⟨⟨y0, y1, y2, y3⟩, rfl, ⟨k0, k1, k2, k3⟩, fun c hc => ?_⟩
    simp only [List.mem_cons, List.not_mem_nil, or_false] at hc
    rcases hc with rfl | rfl | rfl | rfl
    · exact l0 _ (by simp)
    · exact l1 _ (by simp)
    · exact l2 _ (by simp)
    · exact l3 _ (by simp)⟩
def ok_future_done : World → S_future_done → Prop := fun w x => okI .i64 w x.f_state ∧ okI .i32 w x.f_v ∧ okI .i64 w x.f_code
instance : Rd Tryz.prog 131 e_future_done ok_future_done := ⟨fun {H enc w fuel cs x} h => by
  obtain ⟨xs, m, _, _, hl, hlen, hf⟩ := DataW.trod_struct Tryz.underlying131 h
  rw [cellsOf_of (n := 3)] at hl
  match cs, hl with
  | [c0, c1, c2], _ =>
    obtain ⟨y0, e0, k0, l0⟩ := Rd.fld (P := Tryz.prog) (t' := 3) hf hlen 0 _ rfl rfl 0 rfl
    replace e0 : [c0] = [.int .i64 y0] := e0
    replace l0 : ∀ c, c ∈ [c0] → fl c = true := l0
    obtain ⟨y1, e1, k1, l1⟩ := Rd.fld (P := Tryz.prog) (t' := 21) hf hlen 1 _ rfl rfl 1 rfl
    replace e1 : [c1] = [.int .i32 y1] := e1
    replace l1 : ∀ c, c ∈ [c1] → fl c = true := l1
    obtain ⟨y2, e2, k2, l2⟩ := Rd.fld (P := Tryz.prog) (t' := 111) hf hlen 2 _ rfl rfl 2 rfl
    replace e2 : [c2] = [.int .i64 y2] := e2
    replace l2 : ∀ c, c ∈ [c2] → fl c = true := l2
    have q0 := (List.cons.inj e0).1.symm; subst q0
    have q1 := (List.cons.inj e1).1.symm; subst q1
    have q2 := (List.cons.inj e2).1.symm; subst q2
    refine ⟨⟨y0, y1, y2⟩, rfl, ⟨k0, k1, k2⟩, fun c hc => ?_⟩
    simp only [List.mem_cons, List.not_mem_nil, or_false] at hc
    rcases hc with rfl | rfl | rfl
    · exact l0 _ (by simp)
    · exact l1 _ (by simp)
    · exact l2 _ (by simp)⟩
def ok_confidantref15_Picks : World → S_confidantref15_Picks → Prop := fun w x => (okS (eInt .u8) (okI .u8)) w x.f_L ∧ okI .u64 w x.f_S
instance : Rd Tryz.prog 160 e_confidantref15_Picks ok_confidantref15_Picks := ⟨fun {H enc w fuel cs x} h => by
  obtain ⟨xs, m, _, _, hl, hlen, hf⟩ := DataW.trod_struct Tryz.underlying160 h
  rw [cellsOf_of (n := 2)] at hl
  match cs, hl with
  | [c0, c1], _ =>
    obtain ⟨y0, e0, k0, l0⟩ := Rd.fld (P := Tryz.prog) (t' := 25) hf hlen 0 _ rfl rfl 0 rfl
    replace e0 : [c0] = [y0] := e0
    replace l0 : ∀ c, c ∈ [c0] → fl c = true := l0
    obtain ⟨y1, e1, k1, l1⟩ := Rd.fld (P := Tryz.prog) (t' := 26) hf hlen 1 _ rfl rfl 1 rfl
    replace e1 : [c1] = [.int .u64 y1] := e1
    replace l1 : ∀ c, c ∈ [c1] → fl c = true := l1
    have q0 := (List.cons.inj e0).1.symm; subst q0
    have q1 := (List.cons.inj e1).1.symm; subst q1
    refine ⟨⟨y0, y1⟩, rfl, ⟨k0, k1⟩, fun c hc => ?_⟩
    simp only [List.mem_cons, List.not_mem_nil, or_false] at hc
    rcases hc with rfl | rfl
    · exact l0 _ (by simp)
    · exact l1 _ (by simp)⟩
def ok_rng_Rng : World → S_rng_Rng → Prop := fun w x => okI .u64 w x.f_s
instance : Rd Tryz.prog 181 e_rng_Rng ok_rng_Rng := ⟨fun {H enc w fuel cs x} h => by
  obtain ⟨xs, m, _, _, hl, hlen, hf⟩ := DataW.trod_struct Tryz.underlying181 h
  rw [cellsOf_of (n := 1)] at hl
  match cs, hl with
  | [c0], _ =>
    obtain ⟨y0, e0, k0, l0⟩ := Rd.fld (P := Tryz.prog) (t' := 26) hf hlen 0 _ rfl rfl 0 rfl
    replace e0 : [c0] = [.int .u64 y0] := e0
    replace l0 : ∀ c, c ∈ [c0] → fl c = true := l0
    have q0 := (List.cons.inj e0).1.symm; subst q0
    refine ⟨⟨y0⟩, rfl, k0, fun c hc => ?_⟩
    simp only [List.mem_cons, List.not_mem_nil, or_false] at hc
    rcases hc with rfl
    · exact l0 _ (by simp)⟩
instance : EqG Tryz.prog 41 := ⟨by kernel_rfl, by kernel_rfl⟩
instance : EqT Tryz.prog 41 (kS e_confidantlaw24_Act) 2 := ⟨fun d hd x y w => by
  obtain ⟨d, rfl⟩ : ∃ e, d = e + 1 := ⟨d - 1, by omega⟩
  refine (eqStruct Tryz.underlying41 (by kernel_rfl) (bs := [decide (x.f_What = y.f_What), decide (x.f_W = y.f_W), decide (x.f_N = y.f_N), decide (x.f_F = y.f_F)]) ?_).trans ?_
  · exact (EqFs.cons (t := 5) (V := (kI .u8)) (a := x.f_What) (b := y.f_What) rfl (by decide) (by omega) ((inferInstance : LiesL Tryz.prog 5 [.int .u8 x.f_What, .int .u8 x.f_W, .int .u8 x.f_N, .int .u8 x.f_F] 0 (.int .u8 x.f_What)).lies) ((inferInstance : LiesL Tryz.prog 5 [.int .u8 y.f_What, .int .u8 y.f_W, .int .u8 y.f_N, .int .u8 y.f_F] 0 (.int .u8 y.f_What)).lies) (EqFs.cons (t := 5) (V := (kI .u8)) (a := x.f_W) (b := y.f_W) rfl (by decide) (by omega) ((inferInstance : LiesL Tryz.prog 5 [.int .u8 x.f_What, .int .u8 x.f_W, .int .u8 x.f_N, .int .u8 x.f_F] 1 (.int .u8 x.f_W)).lies) ((inferInstance : LiesL Tryz.prog 5 [.int .u8 y.f_What, .int .u8 y.f_W, .int .u8 y.f_N, .int .u8 y.f_F] 1 (.int .u8 y.f_W)).lies) (EqFs.cons (t := 5) (V := (kI .u8)) (a := x.f_N) (b := y.f_N) rfl (by decide) (by omega) ((inferInstance : LiesL Tryz.prog 5 [.int .u8 x.f_What, .int .u8 x.f_W, .int .u8 x.f_N, .int .u8 x.f_F] 2 (.int .u8 x.f_N)).lies) ((inferInstance : LiesL Tryz.prog 5 [.int .u8 y.f_What, .int .u8 y.f_W, .int .u8 y.f_N, .int .u8 y.f_F] 2 (.int .u8 y.f_N)).lies) (EqFs.cons (t := 5) (V := (kI .u8)) (a := x.f_F) (b := y.f_F) rfl (by decide) (by omega) ((inferInstance : LiesL Tryz.prog 5 [.int .u8 x.f_What, .int .u8 x.f_W, .int .u8 x.f_N, .int .u8 x.f_F] 3 (.int .u8 x.f_F)).lies) ((inferInstance : LiesL Tryz.prog 5 [.int .u8 y.f_What, .int .u8 y.f_W, .int .u8 y.f_N, .int .u8 y.f_F] 3 (.int .u8 y.f_F)).lies) trivial))))
  · cases x; cases y; simp only [Result.ok.injEq, and_true]; rw [Bool.eq_iff_iff]; simp⟩
instance : EqG Tryz.prog 81 := ⟨by kernel_rfl, by kernel_rfl⟩
instance : EqT Tryz.prog 81 (kS e_api_Event) 2 := ⟨fun d hd x y w => by
  obtain ⟨d, rfl⟩ : ∃ e, d = e + 1 := ⟨d - 1, by omega⟩
  refine (eqStruct Tryz.underlying81 (by kernel_rfl) (bs := [decide (x.f_Round = y.f_Round), decide (x.f_Label = y.f_Label), decide (x.f_Kind = y.f_Kind), decide (x.f_Worker = y.f_Worker), decide (x.f_Task = y.f_Task), decide (x.f_A = y.f_A), decide (x.f_B = y.f_B)]) ?_).trans ?_
  · exact (EqFs.cons (t := 3) (V := (kI .i64)) (a := x.f_Round) (b := y.f_Round) rfl (by decide) (by omega) ((inferInstance : LiesL Tryz.prog 3 [.int .i64 x.f_Round, .int .i64 x.f_Label, .int .i64 x.f_Kind, .int .i64 x.f_Worker, .int .i32 x.f_Task, .int .i32 x.f_A, .int .i32 x.f_B] 0 (.int .i64 x.f_Round)).lies) ((inferInstance : LiesL Tryz.prog 3 [.int .i64 y.f_Round, .int .i64 y.f_Label, .int .i64 y.f_Kind, .int .i64 y.f_Worker, .int .i32 y.f_Task, .int .i32 y.f_A, .int .i32 y.f_B] 0 (.int .i64 y.f_Round)).lies) (EqFs.cons (t := 3) (V := (kI .i64)) (a := x.f_Label) (b := y.f_Label) rfl (by decide) (by omega) ((inferInstance : LiesL Tryz.prog 3 [.int .i64 x.f_Round, .int .i64 x.f_Label, .int .i64 x.f_Kind, .int .i64 x.f_Worker, .int .i32 x.f_Task, .int .i32 x.f_A, .int .i32 x.f_B] 1 (.int .i64 x.f_Label)).lies) ((inferInstance : LiesL Tryz.prog 3 [.int .i64 y.f_Round, .int .i64 y.f_Label, .int .i64 y.f_Kind, .int .i64 y.f_Worker, .int .i32 y.f_Task, .int .i32 y.f_A, .int .i32 y.f_B] 1 (.int .i64 y.f_Label)).lies) (EqFs.cons (t := 3) (V := (kI .i64)) (a := x.f_Kind) (b := y.f_Kind) rfl (by decide) (by omega) ((inferInstance : LiesL Tryz.prog 3 [.int .i64 x.f_Round, .int .i64 x.f_Label, .int .i64 x.f_Kind, .int .i64 x.f_Worker, .int .i32 x.f_Task, .int .i32 x.f_A, .int .i32 x.f_B] 2 (.int .i64 x.f_Kind)).lies) ((inferInstance : LiesL Tryz.prog 3 [.int .i64 y.f_Round, .int .i64 y.f_Label, .int .i64 y.f_Kind, .int .i64 y.f_Worker, .int .i32 y.f_Task, .int .i32 y.f_A, .int .i32 y.f_B] 2 (.int .i64 y.f_Kind)).lies) (EqFs.cons (t := 3) (V := (kI .i64)) (a := x.f_Worker) (b := y.f_Worker) rfl (by decide) (by omega) ((inferInstance : LiesL Tryz.prog 3 [.int .i64 x.f_Round, .int .i64 x.f_Label, .int .i64 x.f_Kind, .int .i64 x.f_Worker, .int .i32 x.f_Task, .int .i32 x.f_A, .int .i32 x.f_B] 3 (.int .i64 x.f_Worker)).lies) ((inferInstance : LiesL Tryz.prog 3 [.int .i64 y.f_Round, .int .i64 y.f_Label, .int .i64 y.f_Kind, .int .i64 y.f_Worker, .int .i32 y.f_Task, .int .i32 y.f_A, .int .i32 y.f_B] 3 (.int .i64 y.f_Worker)).lies) (EqFs.cons (t := 21) (V := (kI .i32)) (a := x.f_Task) (b := y.f_Task) rfl (by decide) (by omega) ((inferInstance : LiesL Tryz.prog 21 [.int .i64 x.f_Round, .int .i64 x.f_Label, .int .i64 x.f_Kind, .int .i64 x.f_Worker, .int .i32 x.f_Task, .int .i32 x.f_A, .int .i32 x.f_B] 4 (.int .i32 x.f_Task)).lies) ((inferInstance : LiesL Tryz.prog 21 [.int .i64 y.f_Round, .int .i64 y.f_Label, .int .i64 y.f_Kind, .int .i64 y.f_Worker, .int .i32 y.f_Task, .int .i32 y.f_A, .int .i32 y.f_B] 4 (.int .i32 y.f_Task)).lies) (EqFs.cons (t := 21) (V := (kI .i32)) (a := x.f_A) (b := y.f_A) rfl (by decide) (by omega) ((inferInstance : LiesL Tryz.prog 21 [.int .i64 x.f_Round, .int .i64 x.f_Label, .int .i64 x.f_Kind, .int .i64 x.f_Worker, .int .i32 x.f_Task, .int .i32 x.f_A, .int .i32 x.f_B] 5 (.int .i32 x.f_A)).lies) ((inferInstance : LiesL Tryz.prog 21 [.int .i64 y.f_Round, .int .i64 y.f_Label, .int .i64 y.f_Kind, .int .i64 y.f_Worker, .int .i32 y.f_Task, .int .i32 y.f_A, .int .i32 y.f_B] 5 (.int .i32 y.f_A)).lies) (EqFs.cons (t := 21) (V := (kI .i32)) (a := x.f_B) (b := y.f_B) rfl (by decide) (by omega) ((inferInstance : LiesL Tryz.prog 21 [.int .i64 x.f_Round, .int .i64 x.f_Label, .int .i64 x.f_Kind, .int .i64 x.f_Worker, .int .i32 x.f_Task, .int .i32 x.f_A, .int .i32 x.f_B] 6 (.int .i32 x.f_B)).lies) ((inferInstance : LiesL Tryz.prog 21 [.int .i64 y.f_Round, .int .i64 y.f_Label, .int .i64 y.f_Kind, .int .i64 y.f_Worker, .int .i32 y.f_Task, .int .i32 y.f_A, .int .i32 y.f_B] 6 (.int .i32 y.f_B)).lies) trivial)))))))
  · cases x; cases y; simp only [Result.ok.injEq, and_true]; rw [Bool.eq_iff_iff]; simp⟩
instance : EqG Tryz.prog 113 := ⟨by kernel_rfl, by kernel_rfl⟩
instance : EqT Tryz.prog 113 (kS e_api_Future) 2 := ⟨fun d hd x y w => by
  obtain ⟨d, rfl⟩ : ∃ e, d = e + 1 := ⟨d - 1, by omega⟩
  refine (eqStruct Tryz.underlying113 (by kernel_rfl) (bs := [decide (x.f_Label = y.f_Label), decide (x.f_State = y.f_State), decide (x.f_Value = y.f_Value), decide (x.f_Code = y.f_Code)]) ?_).trans ?_
  · exact (EqFs.cons (t := 3) (V := (kI .i64)) (a := x.f_Label) (b := y.f_Label) rfl (by decide) (by omega) ((inferInstance : LiesL Tryz.prog 3 [.int .i64 x.f_Label, .int .i64 x.f_State, .int .i32 x.f_Value, .int .i64 x.f_Code] 0 (.int .i64 x.f_Label)).lies) ((inferInstance : LiesL Tryz.prog 3 [.int .i64 y.f_Label, .int .i64 y.f_State, .int .i32 y.f_Value, .int .i64 y.f_Code] 0 (.int .i64 y.f_Label)).lies) (EqFs.cons (t := 3) (V := (kI .i64)) (a := x.f_State) (b := y.f_State) rfl (by decide) (by omega) ((inferInstance : LiesL Tryz.prog 3 [.int .i64 x.f_Label, .int .i64 x.f_State, .int .i32 x.f_Value, .int .i64 x.f_Code] 1 (.int .i64 x.f_State)).lies) ((inferInstance : LiesL Tryz.prog 3 [.int .i64 y.f_Label, .int .i64 y.f_State, .int .i32 y.f_Value, .int .i64 y.f_Code] 1 (.int .i64 y.f_State)).lies) (EqFs.cons (t := 21) (V := (kI .i32)) (a := x.f_Value) (b := y.f_Value) rfl (by decide) (by omega) ((inferInstance : LiesL Tryz.prog 21 [.int .i64 x.f_Label, .int .i64 x.f_State, .int .i32 x.f_Value, .int .i64 x.f_Code] 2 (.int .i32 x.f_Value)).lies) ((inferInstance : LiesL Tryz.prog 21 [.int .i64 y.f_Label, .int .i64 y.f_State, .int .i32 y.f_Value, .int .i64 y.f_Code] 2 (.int .i32 y.f_Value)).lies) (EqFs.cons (t := 111) (V := (kI .i64)) (a := x.f_Code) (b := y.f_Code) rfl (by decide) (by omega) ((inferInstance : LiesL Tryz.prog 111 [.int .i64 x.f_Label, .int .i64 x.f_State, .int .i32 x.f_Value, .int .i64 x.f_Code] 3 (.int .i64 x.f_Code)).lies) ((inferInstance : LiesL Tryz.prog 111 [.int .i64 y.f_Label, .int .i64 y.f_State, .int .i32 y.f_Value, .int .i64 y.f_Code] 3 (.int .i64 y.f_Code)).lies) trivial))))
  · cases x; cases y; simp only [Result.ok.injEq, and_true]; rw [Bool.eq_iff_iff]; simp⟩
instance : EqG Tryz.prog 131 := ⟨by kernel_rfl, by kernel_rfl⟩
instance : EqT Tryz.prog 131 (kS e_future_done) 2 := ⟨fun d hd x y w => by
  obtain ⟨d, rfl⟩ : ∃ e, d = e + 1 := ⟨d - 1, by omega⟩
  refine (eqStruct Tryz.underlying131 (by kernel_rfl) (bs := [decide (x.f_state = y.f_state), decide (x.f_v = y.f_v), decide (x.f_code = y.f_code)]) ?_).trans ?_
  · exact (EqFs.cons (t := 3) (V := (kI .i64)) (a := x.f_state) (b := y.f_state) rfl (by decide) (by omega) ((inferInstance : LiesL Tryz.prog 3 [.int .i64 x.f_state, .int .i32 x.f_v, .int .i64 x.f_code] 0 (.int .i64 x.f_state)).lies) ((inferInstance : LiesL Tryz.prog 3 [.int .i64 y.f_state, .int .i32 y.f_v, .int .i64 y.f_code] 0 (.int .i64 y.f_state)).lies) (EqFs.cons (t := 21) (V := (kI .i32)) (a := x.f_v) (b := y.f_v) rfl (by decide) (by omega) ((inferInstance : LiesL Tryz.prog 21 [.int .i64 x.f_state, .int .i32 x.f_v, .int .i64 x.f_code] 1 (.int .i32 x.f_v)).lies) ((inferInstance : LiesL Tryz.prog 21 [.int .i64 y.f_state, .int .i32 y.f_v, .int .i64 y.f_code] 1 (.int .i32 y.f_v)).lies) (EqFs.cons (t := 111) (V := (kI .i64)) (a := x.f_code) (b := y.f_code) rfl (by decide) (by omega) ((inferInstance : LiesL Tryz.prog 111 [.int .i64 x.f_state, .int .i32 x.f_v, .int .i64 x.f_code] 2 (.int .i64 x.f_code)).lies) ((inferInstance : LiesL Tryz.prog 111 [.int .i64 y.f_state, .int .i32 y.f_v, .int .i64 y.f_code] 2 (.int .i64 y.f_code)).lies) trivial)))
  · cases x; cases y; simp only [Result.ok.injEq, and_true]; rw [Bool.eq_iff_iff]; simp⟩
instance : EqG Tryz.prog 181 := ⟨by kernel_rfl, by kernel_rfl⟩
instance : EqT Tryz.prog 181 (kS e_rng_Rng) 2 := ⟨fun d hd x y w => by
  obtain ⟨d, rfl⟩ : ∃ e, d = e + 1 := ⟨d - 1, by omega⟩
  refine (eqStruct Tryz.underlying181 (by kernel_rfl) (bs := [decide (x.f_s = y.f_s)]) ?_).trans ?_
  · exact (EqFs.cons (t := 26) (V := (kI .u64)) (a := x.f_s) (b := y.f_s) rfl (by decide) (by omega) ((inferInstance : LiesL Tryz.prog 26 [.int .u64 x.f_s] 0 (.int .u64 x.f_s)).lies) ((inferInstance : LiesL Tryz.prog 26 [.int .u64 y.f_s] 0 (.int .u64 y.f_s)).lies) trivial)
  · cases x; cases y; simp only [Result.ok.injEq, and_true]; rw [Bool.eq_iff_iff]; simp⟩
theorem mixed : Tryz.prog.follows .mixedOrders = true := by kernel_rfl
end Go.Proofs.YtihmbmoeedojoaaGreat
