/- Facts on the types and functions of the program. Conditions: none. -/
import Derived.Test.YtihmbmoeedojoaaProg
import Derived.Test.YtihmbmoeedojoaaSlC
namespace Go.Proofs.Ytihmbmoeedojoaa
open Go Go.Sl
set_option linter.unusedVariables false
set_option maxRecDepth 100000
instance : TySz Try.prog 1 1 := ⟨by kernel_rfl⟩
instance : TyB Try.prog 1 8 := ⟨by kernel_rfl⟩
instance : Agg Try.prog 1 false := ⟨by kernel_rfl⟩
instance : TyZ Try.prog 1 (.nilFunc) := ⟨by kernel_rfl⟩
instance : TySz Try.prog 2 1 := ⟨by kernel_rfl⟩
instance : TyB Try.prog 2 8 := ⟨by kernel_rfl⟩
instance : Agg Try.prog 2 false := ⟨by kernel_rfl⟩
instance : TyU Try.prog 2 (.int .i64) := ⟨Try.underlying2⟩
instance : TyZ Try.prog 2 (.int .i64 0) := ⟨by kernel_rfl⟩
instance : TySz Try.prog 3 1 := ⟨by kernel_rfl⟩
instance : TyB Try.prog 3 8 := ⟨by kernel_rfl⟩
instance : Agg Try.prog 3 false := ⟨by kernel_rfl⟩
instance : TyU Try.prog 3 (.int .i64) := ⟨Try.underlying3⟩
instance : TyZ Try.prog 3 (.int .i64 0) := ⟨by kernel_rfl⟩
instance : TySz Try.prog 4 1 := ⟨by kernel_rfl⟩
instance : TyB Try.prog 4 1 := ⟨by kernel_rfl⟩
instance : Agg Try.prog 4 false := ⟨by kernel_rfl⟩
instance : TyU Try.prog 4 .bool := ⟨Try.underlying4⟩
instance : TyZ Try.prog 4 (.bool false) := ⟨by kernel_rfl⟩
instance : TySz Try.prog 5 1 := ⟨by kernel_rfl⟩
instance : TyB Try.prog 5 1 := ⟨by kernel_rfl⟩
instance : Agg Try.prog 5 false := ⟨by kernel_rfl⟩
instance : TyU Try.prog 5 (.int .u8) := ⟨Try.underlying5⟩
instance : TyZ Try.prog 5 (.int .u8 0) := ⟨by kernel_rfl⟩
instance : TySz Try.prog 9 1 := ⟨by kernel_rfl⟩
instance : TyB Try.prog 9 16 := ⟨by kernel_rfl⟩
instance : Agg Try.prog 9 false := ⟨by kernel_rfl⟩
instance : TyU Try.prog 9 .string := ⟨Try.underlying9⟩
instance : TySz Try.prog 12 1 := ⟨by kernel_rfl⟩
instance : TyB Try.prog 12 8 := ⟨by kernel_rfl⟩
instance : Agg Try.prog 12 false := ⟨by kernel_rfl⟩
instance : TyU Try.prog 12 (.int .u64) := ⟨Try.underlying12⟩
instance : TyZ Try.prog 12 (.int .u64 0) := ⟨by kernel_rfl⟩
instance : TySz Try.prog 13 2 := ⟨by kernel_rfl⟩
instance : TyB Try.prog 13 24 := ⟨by kernel_rfl⟩
instance : Agg Try.prog 13 true := ⟨by kernel_rfl⟩
instance : NotI Try.prog 13 := ⟨by kernel_rfl⟩
instance : TyF Try.prog 13 0 0 9 := ⟨⟨_, _, Try.underlying13, rfl, rfl, rfl⟩⟩
instance : TyF Try.prog 13 1 1 12 := ⟨⟨_, _, Try.underlying13, rfl, rfl, rfl⟩⟩
instance : TyPl Try.prog 13 [(0, 1), (1, 1)] := ⟨⟨_, Try.underlying13, by kernel_rfl⟩⟩
instance : TySz Try.prog 20 1 := ⟨by kernel_rfl⟩
instance : TyB Try.prog 20 16 := ⟨by kernel_rfl⟩
instance : Agg Try.prog 20 false := ⟨by kernel_rfl⟩
instance : TyZ Try.prog 20 (.nilIface) := ⟨by kernel_rfl⟩
instance : TySz Try.prog 21 1 := ⟨by kernel_rfl⟩
instance : TyB Try.prog 21 4 := ⟨by kernel_rfl⟩
instance : Agg Try.prog 21 false := ⟨by kernel_rfl⟩
instance : TyU Try.prog 21 (.int .i32) := ⟨Try.underlying21⟩
instance : TyZ Try.prog 21 (.int .i32 0) := ⟨by kernel_rfl⟩
instance : TySz Try.prog 22 1 := ⟨by kernel_rfl⟩
instance : TyB Try.prog 22 24 := ⟨by kernel_rfl⟩
instance : Agg Try.prog 22 false := ⟨by kernel_rfl⟩
instance : TyU Try.prog 22 (.slice 21) := ⟨Try.underlying22⟩
instance : TyZ Try.prog 22 (.slice none 0 0) := ⟨by kernel_rfl⟩
instance : TySz Try.prog 23 1 := ⟨by kernel_rfl⟩
instance : TyB Try.prog 23 24 := ⟨by kernel_rfl⟩
instance : Agg Try.prog 23 false := ⟨by kernel_rfl⟩
instance : TyU Try.prog 23 (.slice 5) := ⟨Try.underlying23⟩
instance : TyZ Try.prog 23 (.slice none 0 0) := ⟨by kernel_rfl⟩
instance : TySz Try.prog 24 1 := ⟨by kernel_rfl⟩
instance : TyB Try.prog 24 8 := ⟨by kernel_rfl⟩
instance : Agg Try.prog 24 false := ⟨by kernel_rfl⟩
instance : TyU Try.prog 24 (.int .u64) := ⟨Try.underlying24⟩
instance : TyZ Try.prog 24 (.int .u64 0) := ⟨by kernel_rfl⟩
instance : TySz Try.prog 25 8 := ⟨by kernel_rfl⟩
instance : TyB Try.prog 25 96 := ⟨by kernel_rfl⟩
instance : Agg Try.prog 25 true := ⟨by kernel_rfl⟩
instance : TyZ Try.prog 25 (.agg #[.int .i64 0, .bool false, .int .i64 0, .int .i64 0, .int .i64 0, .slice none 0 0, .slice none 0 0, .int .u64 0]) := ⟨by kernel_rfl⟩
instance : NotI Try.prog 25 := ⟨by kernel_rfl⟩
instance : TyF Try.prog 25 0 0 3 := ⟨⟨_, _, Try.underlying25, rfl, rfl, rfl⟩⟩
instance : TyF Try.prog 25 1 1 4 := ⟨⟨_, _, Try.underlying25, rfl, rfl, rfl⟩⟩
instance : TyF Try.prog 25 2 2 3 := ⟨⟨_, _, Try.underlying25, rfl, rfl, rfl⟩⟩
instance : TyF Try.prog 25 3 3 3 := ⟨⟨_, _, Try.underlying25, rfl, rfl, rfl⟩⟩
instance : TyF Try.prog 25 4 4 3 := ⟨⟨_, _, Try.underlying25, rfl, rfl, rfl⟩⟩
instance : TyF Try.prog 25 5 5 22 := ⟨⟨_, _, Try.underlying25, rfl, rfl, rfl⟩⟩
instance : TyF Try.prog 25 6 6 23 := ⟨⟨_, _, Try.underlying25, rfl, rfl, rfl⟩⟩
instance : TyF Try.prog 25 7 7 24 := ⟨⟨_, _, Try.underlying25, rfl, rfl, rfl⟩⟩
instance : TyPl Try.prog 25 [(0, 1), (1, 1), (2, 1), (3, 1), (4, 1), (5, 1), (6, 1), (7, 1)] := ⟨⟨_, Try.underlying25, by kernel_rfl⟩⟩
instance : TySz Try.prog 26 8 := ⟨by kernel_rfl⟩
instance : TyB Try.prog 26 96 := ⟨by kernel_rfl⟩
instance : Agg Try.prog 26 true := ⟨by kernel_rfl⟩
instance : TyZ Try.prog 26 (.agg #[.int .i64 0, .bool false, .int .i64 0, .int .i64 0, .int .i64 0, .slice none 0 0, .slice none 0 0, .int .u64 0]) := ⟨by kernel_rfl⟩
instance : NotI Try.prog 26 := ⟨by kernel_rfl⟩
instance : TyF Try.prog 26 0 0 3 := ⟨⟨_, _, Try.underlying26, rfl, rfl, rfl⟩⟩
instance : TyF Try.prog 26 1 1 4 := ⟨⟨_, _, Try.underlying26, rfl, rfl, rfl⟩⟩
instance : TyF Try.prog 26 2 2 3 := ⟨⟨_, _, Try.underlying26, rfl, rfl, rfl⟩⟩
instance : TyF Try.prog 26 3 3 3 := ⟨⟨_, _, Try.underlying26, rfl, rfl, rfl⟩⟩
instance : TyF Try.prog 26 4 4 3 := ⟨⟨_, _, Try.underlying26, rfl, rfl, rfl⟩⟩
instance : TyF Try.prog 26 5 5 22 := ⟨⟨_, _, Try.underlying26, rfl, rfl, rfl⟩⟩
instance : TyF Try.prog 26 6 6 23 := ⟨⟨_, _, Try.underlying26, rfl, rfl, rfl⟩⟩
instance : TyF Try.prog 26 7 7 24 := ⟨⟨_, _, Try.underlying26, rfl, rfl, rfl⟩⟩
instance : TyPl Try.prog 26 [(0, 1), (1, 1), (2, 1), (3, 1), (4, 1), (5, 1), (6, 1), (7, 1)] := ⟨⟨_, Try.underlying26, by kernel_rfl⟩⟩
instance : TySz Try.prog 27 1 := ⟨by kernel_rfl⟩
instance : TyB Try.prog 27 8 := ⟨by kernel_rfl⟩
instance : Agg Try.prog 27 false := ⟨by kernel_rfl⟩
instance : TyZ Try.prog 27 (.nilFunc) := ⟨by kernel_rfl⟩
instance : TySz Try.prog 28 1 := ⟨by kernel_rfl⟩
instance : TyB Try.prog 28 8 := ⟨by kernel_rfl⟩
instance : Agg Try.prog 28 false := ⟨by kernel_rfl⟩
instance : TyZ Try.prog 28 (.nilFunc) := ⟨by kernel_rfl⟩
instance : TySz Try.prog 29 1 := ⟨by kernel_rfl⟩
instance : TyB Try.prog 29 8 := ⟨by kernel_rfl⟩
instance : Agg Try.prog 29 false := ⟨by kernel_rfl⟩
instance : TyZ Try.prog 29 (.nilFunc) := ⟨by kernel_rfl⟩
instance : TySz Try.prog 30 1 := ⟨by kernel_rfl⟩
instance : TyB Try.prog 30 8 := ⟨by kernel_rfl⟩
instance : Agg Try.prog 30 false := ⟨by kernel_rfl⟩
instance : TyZ Try.prog 30 (.nilFunc) := ⟨by kernel_rfl⟩
instance : TySz Try.prog 31 1 := ⟨by kernel_rfl⟩
instance : TyB Try.prog 31 8 := ⟨by kernel_rfl⟩
instance : Agg Try.prog 31 false := ⟨by kernel_rfl⟩
instance : TyU Try.prog 31 (.pointer 78) := ⟨Try.underlying31⟩
instance : TyZ Try.prog 31 (.pointer none) := ⟨by kernel_rfl⟩
instance : TySz Try.prog 32 1 := ⟨by kernel_rfl⟩
instance : TyB Try.prog 32 8 := ⟨by kernel_rfl⟩
instance : Agg Try.prog 32 false := ⟨by kernel_rfl⟩
instance : TyZ Try.prog 32 (.nilFunc) := ⟨by kernel_rfl⟩
instance : TySz Try.prog 33 1 := ⟨by kernel_rfl⟩
instance : TyB Try.prog 33 8 := ⟨by kernel_rfl⟩
instance : Agg Try.prog 33 false := ⟨by kernel_rfl⟩
instance : TyZ Try.prog 33 (.nilFunc) := ⟨by kernel_rfl⟩
instance : TySz Try.prog 34 4 := ⟨by kernel_rfl⟩
instance : TyB Try.prog 34 16 := ⟨by kernel_rfl⟩
instance : Agg Try.prog 34 true := ⟨by kernel_rfl⟩
instance : TyU Try.prog 34 (.array 4 21) := ⟨Try.underlying34⟩
instance : TyZ Try.prog 34 (.agg #[.int .i32 0, .int .i32 0, .int .i32 0, .int .i32 0]) := ⟨by kernel_rfl⟩
instance : TySz Try.prog 35 1 := ⟨by kernel_rfl⟩
instance : TyB Try.prog 35 4 := ⟨by kernel_rfl⟩
instance : Agg Try.prog 35 false := ⟨by kernel_rfl⟩
instance : TyU Try.prog 35 (.int .u32) := ⟨Try.underlying35⟩
instance : TyZ Try.prog 35 (.int .u32 0) := ⟨by kernel_rfl⟩
instance : TySz Try.prog 36 12 := ⟨by kernel_rfl⟩
instance : TyB Try.prog 36 96 := ⟨by kernel_rfl⟩
instance : Agg Try.prog 36 true := ⟨by kernel_rfl⟩
instance : TyZ Try.prog 36 (.agg #[.int .i32 0, .int .i64 0, .int .i64 0, .slice none 0 0, .int .i32 0, .int .i32 0, .int .i32 0, .int .i32 0, .int .i64 0, .int .i64 0, .int .u32 0, .int .i64 0]) := ⟨by kernel_rfl⟩
instance : NotI Try.prog 36 := ⟨by kernel_rfl⟩
instance : TyF Try.prog 36 0 0 21 := ⟨⟨_, _, Try.underlying36, rfl, rfl, rfl⟩⟩
instance : TyF Try.prog 36 1 1 3 := ⟨⟨_, _, Try.underlying36, rfl, rfl, rfl⟩⟩
instance : TyF Try.prog 36 2 2 3 := ⟨⟨_, _, Try.underlying36, rfl, rfl, rfl⟩⟩
instance : TyF Try.prog 36 3 3 22 := ⟨⟨_, _, Try.underlying36, rfl, rfl, rfl⟩⟩
instance : TyF Try.prog 36 4 4 34 := ⟨⟨_, _, Try.underlying36, rfl, rfl, rfl⟩⟩
instance : TyF Try.prog 36 5 8 3 := ⟨⟨_, _, Try.underlying36, rfl, rfl, rfl⟩⟩
instance : TyF Try.prog 36 6 9 3 := ⟨⟨_, _, Try.underlying36, rfl, rfl, rfl⟩⟩
instance : TyF Try.prog 36 7 10 35 := ⟨⟨_, _, Try.underlying36, rfl, rfl, rfl⟩⟩
instance : TyF Try.prog 36 8 11 3 := ⟨⟨_, _, Try.underlying36, rfl, rfl, rfl⟩⟩
instance : TyPl Try.prog 36 [(0, 1), (1, 1), (2, 1), (3, 1), (4, 4), (8, 1), (9, 1), (10, 1), (11, 1)] := ⟨⟨_, Try.underlying36, by kernel_rfl⟩⟩
instance : TySz Try.prog 37 12 := ⟨by kernel_rfl⟩
instance : TyB Try.prog 37 96 := ⟨by kernel_rfl⟩
instance : Agg Try.prog 37 true := ⟨by kernel_rfl⟩
instance : TyZ Try.prog 37 (.agg #[.int .i32 0, .int .i64 0, .int .i64 0, .slice none 0 0, .int .i32 0, .int .i32 0, .int .i32 0, .int .i32 0, .int .i64 0, .int .i64 0, .int .u32 0, .int .i64 0]) := ⟨by kernel_rfl⟩
instance : NotI Try.prog 37 := ⟨by kernel_rfl⟩
instance : TyF Try.prog 37 0 0 21 := ⟨⟨_, _, Try.underlying37, rfl, rfl, rfl⟩⟩
instance : TyF Try.prog 37 1 1 3 := ⟨⟨_, _, Try.underlying37, rfl, rfl, rfl⟩⟩
instance : TyF Try.prog 37 2 2 3 := ⟨⟨_, _, Try.underlying37, rfl, rfl, rfl⟩⟩
instance : TyF Try.prog 37 3 3 22 := ⟨⟨_, _, Try.underlying37, rfl, rfl, rfl⟩⟩
instance : TyF Try.prog 37 4 4 34 := ⟨⟨_, _, Try.underlying37, rfl, rfl, rfl⟩⟩
instance : TyF Try.prog 37 5 8 3 := ⟨⟨_, _, Try.underlying37, rfl, rfl, rfl⟩⟩
instance : TyF Try.prog 37 6 9 3 := ⟨⟨_, _, Try.underlying37, rfl, rfl, rfl⟩⟩
instance : TyF Try.prog 37 7 10 35 := ⟨⟨_, _, Try.underlying37, rfl, rfl, rfl⟩⟩
instance : TyF Try.prog 37 8 11 3 := ⟨⟨_, _, Try.underlying37, rfl, rfl, rfl⟩⟩
instance : TyPl Try.prog 37 [(0, 1), (1, 1), (2, 1), (3, 1), (4, 4), (8, 1), (9, 1), (10, 1), (11, 1)] := ⟨⟨_, Try.underlying37, by kernel_rfl⟩⟩
instance : TySz Try.prog 38 1 := ⟨by kernel_rfl⟩
instance : TyB Try.prog 38 24 := ⟨by kernel_rfl⟩
instance : Agg Try.prog 38 false := ⟨by kernel_rfl⟩
instance : TyU Try.prog 38 (.slice 43) := ⟨Try.underlying38⟩
instance : TyZ Try.prog 38 (.slice none 0 0) := ⟨by kernel_rfl⟩
instance : TySz Try.prog 40 1 := ⟨by kernel_rfl⟩
instance : TyB Try.prog 40 8 := ⟨by kernel_rfl⟩
instance : Agg Try.prog 40 false := ⟨by kernel_rfl⟩
instance : TyZ Try.prog 40 (.nilFunc) := ⟨by kernel_rfl⟩
instance : TySz Try.prog 41 1 := ⟨by kernel_rfl⟩
instance : TyB Try.prog 41 8 := ⟨by kernel_rfl⟩
instance : Agg Try.prog 41 false := ⟨by kernel_rfl⟩
instance : TyZ Try.prog 41 (.nilFunc) := ⟨by kernel_rfl⟩
instance : TySz Try.prog 42 7 := ⟨by kernel_rfl⟩
instance : TyB Try.prog 42 48 := ⟨by kernel_rfl⟩
instance : Agg Try.prog 42 true := ⟨by kernel_rfl⟩
instance : TyZ Try.prog 42 (.agg #[.int .i64 0, .int .i64 0, .int .i64 0, .int .i64 0, .int .i32 0, .int .i32 0, .int .i32 0]) := ⟨by kernel_rfl⟩
instance : NotI Try.prog 42 := ⟨by kernel_rfl⟩
instance : TyF Try.prog 42 0 0 3 := ⟨⟨_, _, Try.underlying42, rfl, rfl, rfl⟩⟩
instance : TyF Try.prog 42 1 1 3 := ⟨⟨_, _, Try.underlying42, rfl, rfl, rfl⟩⟩
instance : TyF Try.prog 42 2 2 3 := ⟨⟨_, _, Try.underlying42, rfl, rfl, rfl⟩⟩
instance : TyF Try.prog 42 3 3 3 := ⟨⟨_, _, Try.underlying42, rfl, rfl, rfl⟩⟩
instance : TyF Try.prog 42 4 4 21 := ⟨⟨_, _, Try.underlying42, rfl, rfl, rfl⟩⟩
instance : TyF Try.prog 42 5 5 21 := ⟨⟨_, _, Try.underlying42, rfl, rfl, rfl⟩⟩
instance : TyF Try.prog 42 6 6 21 := ⟨⟨_, _, Try.underlying42, rfl, rfl, rfl⟩⟩
instance : TyPl Try.prog 42 [(0, 1), (1, 1), (2, 1), (3, 1), (4, 1), (5, 1), (6, 1)] := ⟨⟨_, Try.underlying42, by kernel_rfl⟩⟩
instance : TySz Try.prog 43 7 := ⟨by kernel_rfl⟩
instance : TyB Try.prog 43 48 := ⟨by kernel_rfl⟩
instance : Agg Try.prog 43 true := ⟨by kernel_rfl⟩
instance : TyZ Try.prog 43 (.agg #[.int .i64 0, .int .i64 0, .int .i64 0, .int .i64 0, .int .i32 0, .int .i32 0, .int .i32 0]) := ⟨by kernel_rfl⟩
instance : NotI Try.prog 43 := ⟨by kernel_rfl⟩
instance : TyF Try.prog 43 0 0 3 := ⟨⟨_, _, Try.underlying43, rfl, rfl, rfl⟩⟩
instance : TyF Try.prog 43 1 1 3 := ⟨⟨_, _, Try.underlying43, rfl, rfl, rfl⟩⟩
instance : TyF Try.prog 43 2 2 3 := ⟨⟨_, _, Try.underlying43, rfl, rfl, rfl⟩⟩
instance : TyF Try.prog 43 3 3 3 := ⟨⟨_, _, Try.underlying43, rfl, rfl, rfl⟩⟩
instance : TyF Try.prog 43 4 4 21 := ⟨⟨_, _, Try.underlying43, rfl, rfl, rfl⟩⟩
instance : TyF Try.prog 43 5 5 21 := ⟨⟨_, _, Try.underlying43, rfl, rfl, rfl⟩⟩
instance : TyF Try.prog 43 6 6 21 := ⟨⟨_, _, Try.underlying43, rfl, rfl, rfl⟩⟩
instance : TyPl Try.prog 43 [(0, 1), (1, 1), (2, 1), (3, 1), (4, 1), (5, 1), (6, 1)] := ⟨⟨_, Try.underlying43, by kernel_rfl⟩⟩
instance : TySz Try.prog 44 1 := ⟨by kernel_rfl⟩
instance : TyB Try.prog 44 8 := ⟨by kernel_rfl⟩
instance : Agg Try.prog 44 false := ⟨by kernel_rfl⟩
instance : TyZ Try.prog 44 (.nilFunc) := ⟨by kernel_rfl⟩
instance : TySz Try.prog 45 1 := ⟨by kernel_rfl⟩
instance : TyB Try.prog 45 8 := ⟨by kernel_rfl⟩
instance : Agg Try.prog 45 false := ⟨by kernel_rfl⟩
instance : TyZ Try.prog 45 (.nilFunc) := ⟨by kernel_rfl⟩
instance : TySz Try.prog 47 1 := ⟨by kernel_rfl⟩
instance : TyB Try.prog 47 8 := ⟨by kernel_rfl⟩
instance : Agg Try.prog 47 false := ⟨by kernel_rfl⟩
instance : TyZ Try.prog 47 (.nilFunc) := ⟨by kernel_rfl⟩
instance : TySz Try.prog 48 1 := ⟨by kernel_rfl⟩
instance : TyB Try.prog 48 8 := ⟨by kernel_rfl⟩
instance : Agg Try.prog 48 false := ⟨by kernel_rfl⟩
instance : TyZ Try.prog 48 (.nilFunc) := ⟨by kernel_rfl⟩
instance : TySz Try.prog 49 1 := ⟨by kernel_rfl⟩
instance : TyB Try.prog 49 8 := ⟨by kernel_rfl⟩
instance : Agg Try.prog 49 false := ⟨by kernel_rfl⟩
instance : TyZ Try.prog 49 (.nilFunc) := ⟨by kernel_rfl⟩
instance : TySz Try.prog 50 1 := ⟨by kernel_rfl⟩
instance : TyB Try.prog 50 8 := ⟨by kernel_rfl⟩
instance : Agg Try.prog 50 false := ⟨by kernel_rfl⟩
instance : TyZ Try.prog 50 (.nilFunc) := ⟨by kernel_rfl⟩
instance : TySz Try.prog 51 1 := ⟨by kernel_rfl⟩
instance : TyB Try.prog 51 8 := ⟨by kernel_rfl⟩
instance : Agg Try.prog 51 false := ⟨by kernel_rfl⟩
instance : TyU Try.prog 51 (.pointer 93) := ⟨Try.underlying51⟩
instance : TyZ Try.prog 51 (.pointer none) := ⟨by kernel_rfl⟩
instance : TySz Try.prog 52 1 := ⟨by kernel_rfl⟩
instance : TyB Try.prog 52 8 := ⟨by kernel_rfl⟩
instance : Agg Try.prog 52 false := ⟨by kernel_rfl⟩
instance : TyZ Try.prog 52 (.nilFunc) := ⟨by kernel_rfl⟩
instance : TySz Try.prog 54 1 := ⟨by kernel_rfl⟩
instance : TyB Try.prog 54 8 := ⟨by kernel_rfl⟩
instance : Agg Try.prog 54 false := ⟨by kernel_rfl⟩
instance : TyZ Try.prog 54 (.nilFunc) := ⟨by kernel_rfl⟩
instance : TySz Try.prog 55 1 := ⟨by kernel_rfl⟩
instance : TyB Try.prog 55 8 := ⟨by kernel_rfl⟩
instance : Agg Try.prog 55 false := ⟨by kernel_rfl⟩
instance : TyZ Try.prog 55 (.nilFunc) := ⟨by kernel_rfl⟩
instance : TySz Try.prog 56 1 := ⟨by kernel_rfl⟩
instance : TyB Try.prog 56 24 := ⟨by kernel_rfl⟩
instance : Agg Try.prog 56 false := ⟨by kernel_rfl⟩
instance : TyU Try.prog 56 (.slice 37) := ⟨Try.underlying56⟩
instance : TyZ Try.prog 56 (.slice none 0 0) := ⟨by kernel_rfl⟩
instance : TySz Try.prog 58 1 := ⟨by kernel_rfl⟩
instance : TyB Try.prog 58 8 := ⟨by kernel_rfl⟩
instance : Agg Try.prog 58 false := ⟨by kernel_rfl⟩
instance : TyZ Try.prog 58 (.nilFunc) := ⟨by kernel_rfl⟩
instance : TySz Try.prog 59 1 := ⟨by kernel_rfl⟩
instance : TyB Try.prog 59 2 := ⟨by kernel_rfl⟩
instance : Agg Try.prog 59 false := ⟨by kernel_rfl⟩
instance : TyU Try.prog 59 (.int .u16) := ⟨Try.underlying59⟩
instance : TyZ Try.prog 59 (.int .u16 0) := ⟨by kernel_rfl⟩
instance : TySz Try.prog 60 1 := ⟨by kernel_rfl⟩
instance : TyB Try.prog 60 8 := ⟨by kernel_rfl⟩
instance : Agg Try.prog 60 false := ⟨by kernel_rfl⟩
instance : TyZ Try.prog 60 (.nilFunc) := ⟨by kernel_rfl⟩
instance : TySz Try.prog 61 1 := ⟨by kernel_rfl⟩
instance : TyB Try.prog 61 8 := ⟨by kernel_rfl⟩
instance : Agg Try.prog 61 false := ⟨by kernel_rfl⟩
instance : TyU Try.prog 61 (.int .i64) := ⟨Try.underlying61⟩
instance : TyZ Try.prog 61 (.int .i64 0) := ⟨by kernel_rfl⟩
instance : TySz Try.prog 62 2 := ⟨by kernel_rfl⟩
instance : TyB Try.prog 62 16 := ⟨by kernel_rfl⟩
instance : Agg Try.prog 62 true := ⟨by kernel_rfl⟩
instance : TyU Try.prog 62 (.array 2 3) := ⟨Try.underlying62⟩
instance : TyZ Try.prog 62 (.agg #[.int .i64 0, .int .i64 0]) := ⟨by kernel_rfl⟩
instance : TySz Try.prog 63 1 := ⟨by kernel_rfl⟩
instance : TyB Try.prog 63 8 := ⟨by kernel_rfl⟩
instance : Agg Try.prog 63 false := ⟨by kernel_rfl⟩
instance : TyZ Try.prog 63 (.nilFunc) := ⟨by kernel_rfl⟩
instance : TySz Try.prog 64 1 := ⟨by kernel_rfl⟩
instance : TyB Try.prog 64 8 := ⟨by kernel_rfl⟩
instance : Agg Try.prog 64 false := ⟨by kernel_rfl⟩
instance : TyZ Try.prog 64 (.nilFunc) := ⟨by kernel_rfl⟩
instance : TySz Try.prog 66 1 := ⟨by kernel_rfl⟩
instance : TyB Try.prog 66 8 := ⟨by kernel_rfl⟩
instance : Agg Try.prog 66 false := ⟨by kernel_rfl⟩
instance : TyZ Try.prog 66 (.nilFunc) := ⟨by kernel_rfl⟩
instance : TySz Try.prog 67 1 := ⟨by kernel_rfl⟩
instance : TyB Try.prog 67 8 := ⟨by kernel_rfl⟩
instance : Agg Try.prog 67 false := ⟨by kernel_rfl⟩
instance : TyZ Try.prog 67 (.nilFunc) := ⟨by kernel_rfl⟩
instance : TySz Try.prog 68 1 := ⟨by kernel_rfl⟩
instance : TyB Try.prog 68 8 := ⟨by kernel_rfl⟩
instance : Agg Try.prog 68 false := ⟨by kernel_rfl⟩
instance : TyU Try.prog 68 (.int .u64) := ⟨Try.underlying68⟩
instance : TyZ Try.prog 68 (.int .u64 0) := ⟨by kernel_rfl⟩
instance : TySz Try.prog 69 1 := ⟨by kernel_rfl⟩
instance : TyB Try.prog 69 8 := ⟨by kernel_rfl⟩
instance : Agg Try.prog 69 false := ⟨by kernel_rfl⟩
instance : TyZ Try.prog 69 (.nilFunc) := ⟨by kernel_rfl⟩
instance : TySz Try.prog 70 1 := ⟨by kernel_rfl⟩
instance : TyB Try.prog 70 8 := ⟨by kernel_rfl⟩
instance : Agg Try.prog 70 false := ⟨by kernel_rfl⟩
instance : TyU Try.prog 70 (.pointer 111) := ⟨Try.underlying70⟩
instance : TyZ Try.prog 70 (.pointer none) := ⟨by kernel_rfl⟩
instance : TySz Try.prog 71 1 := ⟨by kernel_rfl⟩
instance : TyB Try.prog 71 8 := ⟨by kernel_rfl⟩
instance : Agg Try.prog 71 false := ⟨by kernel_rfl⟩
instance : TyZ Try.prog 71 (.nilFunc) := ⟨by kernel_rfl⟩
instance : TySz Try.prog 72 1 := ⟨by kernel_rfl⟩
instance : TyB Try.prog 72 8 := ⟨by kernel_rfl⟩
instance : Agg Try.prog 72 false := ⟨by kernel_rfl⟩
instance : TyU Try.prog 72 (.pointer 114) := ⟨Try.underlying72⟩
instance : TyZ Try.prog 72 (.pointer none) := ⟨by kernel_rfl⟩
instance : TySz Try.prog 73 1 := ⟨by kernel_rfl⟩
instance : TyB Try.prog 73 8 := ⟨by kernel_rfl⟩
instance : Agg Try.prog 73 false := ⟨by kernel_rfl⟩
instance : TyZ Try.prog 73 (.nilFunc) := ⟨by kernel_rfl⟩
instance : TySz Try.prog 74 1 := ⟨by kernel_rfl⟩
instance : TyB Try.prog 74 8 := ⟨by kernel_rfl⟩
instance : Agg Try.prog 74 false := ⟨by kernel_rfl⟩
instance : TyU Try.prog 74 (.pointer 119) := ⟨Try.underlying74⟩
instance : TyZ Try.prog 74 (.pointer none) := ⟨by kernel_rfl⟩
instance : TySz Try.prog 75 1 := ⟨by kernel_rfl⟩
instance : TyB Try.prog 75 8 := ⟨by kernel_rfl⟩
instance : Agg Try.prog 75 false := ⟨by kernel_rfl⟩
instance : TyZ Try.prog 75 (.nilFunc) := ⟨by kernel_rfl⟩
instance : TySz Try.prog 76 1 := ⟨by kernel_rfl⟩
instance : TyB Try.prog 76 24 := ⟨by kernel_rfl⟩
instance : Agg Try.prog 76 false := ⟨by kernel_rfl⟩
instance : TyU Try.prog 76 (.slice 79) := ⟨Try.underlying76⟩
instance : TyZ Try.prog 76 (.slice none 0 0) := ⟨by kernel_rfl⟩
instance : TySz Try.prog 77 7 := ⟨by kernel_rfl⟩
instance : TyB Try.prog 77 72 := ⟨by kernel_rfl⟩
instance : Agg Try.prog 77 true := ⟨by kernel_rfl⟩
instance : TyZ Try.prog 77 (.agg #[.int .i64 0, .bool false, .int .i64 0, .slice none 0 0, .pointer none, .pointer none, .nilFunc]) := ⟨by kernel_rfl⟩
instance : NotI Try.prog 77 := ⟨by kernel_rfl⟩
instance : TyF Try.prog 77 0 0 3 := ⟨⟨_, _, Try.underlying77, rfl, rfl, rfl⟩⟩
instance : TyF Try.prog 77 1 1 4 := ⟨⟨_, _, Try.underlying77, rfl, rfl, rfl⟩⟩
instance : TyF Try.prog 77 2 2 3 := ⟨⟨_, _, Try.underlying77, rfl, rfl, rfl⟩⟩
instance : TyF Try.prog 77 3 3 76 := ⟨⟨_, _, Try.underlying77, rfl, rfl, rfl⟩⟩
instance : TyF Try.prog 77 4 4 70 := ⟨⟨_, _, Try.underlying77, rfl, rfl, rfl⟩⟩
instance : TyF Try.prog 77 5 5 72 := ⟨⟨_, _, Try.underlying77, rfl, rfl, rfl⟩⟩
instance : TyF Try.prog 77 6 6 44 := ⟨⟨_, _, Try.underlying77, rfl, rfl, rfl⟩⟩
instance : TyPl Try.prog 77 [(0, 1), (1, 1), (2, 1), (3, 1), (4, 1), (5, 1), (6, 1)] := ⟨⟨_, Try.underlying77, by kernel_rfl⟩⟩
instance : TySz Try.prog 78 7 := ⟨by kernel_rfl⟩
instance : TyB Try.prog 78 72 := ⟨by kernel_rfl⟩
instance : Agg Try.prog 78 true := ⟨by kernel_rfl⟩
instance : TyZ Try.prog 78 (.agg #[.int .i64 0, .bool false, .int .i64 0, .slice none 0 0, .pointer none, .pointer none, .nilFunc]) := ⟨by kernel_rfl⟩
instance : NotI Try.prog 78 := ⟨by kernel_rfl⟩
instance : TyF Try.prog 78 0 0 3 := ⟨⟨_, _, Try.underlying78, rfl, rfl, rfl⟩⟩
instance : TyF Try.prog 78 1 1 4 := ⟨⟨_, _, Try.underlying78, rfl, rfl, rfl⟩⟩
instance : TyF Try.prog 78 2 2 3 := ⟨⟨_, _, Try.underlying78, rfl, rfl, rfl⟩⟩
instance : TyF Try.prog 78 3 3 76 := ⟨⟨_, _, Try.underlying78, rfl, rfl, rfl⟩⟩
instance : TyF Try.prog 78 4 4 70 := ⟨⟨_, _, Try.underlying78, rfl, rfl, rfl⟩⟩
instance : TyF Try.prog 78 5 5 72 := ⟨⟨_, _, Try.underlying78, rfl, rfl, rfl⟩⟩
instance : TyF Try.prog 78 6 6 44 := ⟨⟨_, _, Try.underlying78, rfl, rfl, rfl⟩⟩
instance : TyPl Try.prog 78 [(0, 1), (1, 1), (2, 1), (3, 1), (4, 1), (5, 1), (6, 1)] := ⟨⟨_, Try.underlying78, by kernel_rfl⟩⟩
instance : TySz Try.prog 79 1 := ⟨by kernel_rfl⟩
instance : TyB Try.prog 79 8 := ⟨by kernel_rfl⟩
instance : Agg Try.prog 79 false := ⟨by kernel_rfl⟩
instance : TyU Try.prog 79 (.pointer 83) := ⟨Try.underlying79⟩
instance : TyZ Try.prog 79 (.pointer none) := ⟨by kernel_rfl⟩
instance : TySz Try.prog 80 1 := ⟨by kernel_rfl⟩
instance : TyB Try.prog 80 8 := ⟨by kernel_rfl⟩
instance : Agg Try.prog 80 false := ⟨by kernel_rfl⟩
instance : TyU Try.prog 80 (.pointer 121) := ⟨Try.underlying80⟩
instance : TyZ Try.prog 80 (.pointer none) := ⟨by kernel_rfl⟩
instance : TySz Try.prog 81 1 := ⟨by kernel_rfl⟩
instance : TyB Try.prog 81 8 := ⟨by kernel_rfl⟩
instance : Agg Try.prog 81 false := ⟨by kernel_rfl⟩
instance : TyZ Try.prog 81 (.nilFunc) := ⟨by kernel_rfl⟩
instance : TySz Try.prog 82 14 := ⟨by kernel_rfl⟩
instance : TyB Try.prog 82 112 := ⟨by kernel_rfl⟩
instance : Agg Try.prog 82 true := ⟨by kernel_rfl⟩
instance : TyZ Try.prog 82 (.agg #[.pointer none, .int .i32 0, .int .i64 0, .int .i64 0, .slice none 0 0, .int .i32 0, .int .i32 0, .int .i32 0, .int .i32 0, .int .i64 0, .int .i64 0, .int .u32 0, .int .i64 0, .bool false]) := ⟨by kernel_rfl⟩
instance : NotI Try.prog 82 := ⟨by kernel_rfl⟩
instance : TyF Try.prog 82 0 0 80 := ⟨⟨_, _, Try.underlying82, rfl, rfl, rfl⟩⟩
instance : TyF Try.prog 82 1 1 37 := ⟨⟨_, _, Try.underlying82, rfl, rfl, rfl⟩⟩
instance : TyF Try.prog 82 2 13 4 := ⟨⟨_, _, Try.underlying82, rfl, rfl, rfl⟩⟩
instance : TyPl Try.prog 82 [(0, 1), (1, 12), (13, 1)] := ⟨⟨_, Try.underlying82, by kernel_rfl⟩⟩
instance : TySz Try.prog 83 14 := ⟨by kernel_rfl⟩
instance : TyB Try.prog 83 112 := ⟨by kernel_rfl⟩
instance : Agg Try.prog 83 true := ⟨by kernel_rfl⟩
instance : TyZ Try.prog 83 (.agg #[.pointer none, .int .i32 0, .int .i64 0, .int .i64 0, .slice none 0 0, .int .i32 0, .int .i32 0, .int .i32 0, .int .i32 0, .int .i64 0, .int .i64 0, .int .u32 0, .int .i64 0, .bool false]) := ⟨by kernel_rfl⟩
instance : NotI Try.prog 83 := ⟨by kernel_rfl⟩
instance : TyF Try.prog 83 0 0 80 := ⟨⟨_, _, Try.underlying83, rfl, rfl, rfl⟩⟩
instance : TyF Try.prog 83 1 1 37 := ⟨⟨_, _, Try.underlying83, rfl, rfl, rfl⟩⟩
instance : TyF Try.prog 83 2 13 4 := ⟨⟨_, _, Try.underlying83, rfl, rfl, rfl⟩⟩
instance : TyPl Try.prog 83 [(0, 1), (1, 12), (13, 1)] := ⟨⟨_, Try.underlying83, by kernel_rfl⟩⟩
instance : TySz Try.prog 84 1 := ⟨by kernel_rfl⟩
instance : TyB Try.prog 84 8 := ⟨by kernel_rfl⟩
instance : Agg Try.prog 84 false := ⟨by kernel_rfl⟩
instance : TyZ Try.prog 84 (.nilFunc) := ⟨by kernel_rfl⟩
instance : TySz Try.prog 85 1 := ⟨by kernel_rfl⟩
instance : TyB Try.prog 85 8 := ⟨by kernel_rfl⟩
instance : Agg Try.prog 85 false := ⟨by kernel_rfl⟩
instance : TyZ Try.prog 85 (.nilFunc) := ⟨by kernel_rfl⟩
instance : TySz Try.prog 86 1 := ⟨by kernel_rfl⟩
instance : TyB Try.prog 86 8 := ⟨by kernel_rfl⟩
instance : Agg Try.prog 86 false := ⟨by kernel_rfl⟩
instance : TyZ Try.prog 86 (.nilFunc) := ⟨by kernel_rfl⟩
instance : TySz Try.prog 87 1 := ⟨by kernel_rfl⟩
instance : TyB Try.prog 87 8 := ⟨by kernel_rfl⟩
instance : Agg Try.prog 87 false := ⟨by kernel_rfl⟩
instance : TyZ Try.prog 87 (.nilFunc) := ⟨by kernel_rfl⟩
instance : TySz Try.prog 88 1 := ⟨by kernel_rfl⟩
instance : TyB Try.prog 88 8 := ⟨by kernel_rfl⟩
instance : Agg Try.prog 88 false := ⟨by kernel_rfl⟩
instance : TyZ Try.prog 88 (.nilFunc) := ⟨by kernel_rfl⟩
instance : TySz Try.prog 89 1 := ⟨by kernel_rfl⟩
instance : TyB Try.prog 89 8 := ⟨by kernel_rfl⟩
instance : Agg Try.prog 89 false := ⟨by kernel_rfl⟩
instance : TyZ Try.prog 89 (.nilFunc) := ⟨by kernel_rfl⟩
instance : TySz Try.prog 90 1 := ⟨by kernel_rfl⟩
instance : TyB Try.prog 90 24 := ⟨by kernel_rfl⟩
instance : Agg Try.prog 90 false := ⟨by kernel_rfl⟩
instance : TyU Try.prog 90 (.slice 3) := ⟨Try.underlying90⟩
instance : TyZ Try.prog 90 (.slice none 0 0) := ⟨by kernel_rfl⟩
instance : TySz Try.prog 91 1 := ⟨by kernel_rfl⟩
instance : TyB Try.prog 91 24 := ⟨by kernel_rfl⟩
instance : Agg Try.prog 91 false := ⟨by kernel_rfl⟩
instance : TyU Try.prog 91 (.slice 94) := ⟨Try.underlying91⟩
instance : TyZ Try.prog 91 (.slice none 0 0) := ⟨by kernel_rfl⟩
instance : TySz Try.prog 92 2 := ⟨by kernel_rfl⟩
instance : TyB Try.prog 92 48 := ⟨by kernel_rfl⟩
instance : Agg Try.prog 92 true := ⟨by kernel_rfl⟩
instance : TyZ Try.prog 92 (.agg #[.slice none 0 0, .slice none 0 0]) := ⟨by kernel_rfl⟩
instance : NotI Try.prog 92 := ⟨by kernel_rfl⟩
instance : TyF Try.prog 92 0 0 91 := ⟨⟨_, _, Try.underlying92, rfl, rfl, rfl⟩⟩
instance : TyF Try.prog 92 1 1 90 := ⟨⟨_, _, Try.underlying92, rfl, rfl, rfl⟩⟩
instance : TyPl Try.prog 92 [(0, 1), (1, 1)] := ⟨⟨_, Try.underlying92, by kernel_rfl⟩⟩
instance : TySz Try.prog 93 2 := ⟨by kernel_rfl⟩
instance : TyB Try.prog 93 48 := ⟨by kernel_rfl⟩
instance : Agg Try.prog 93 true := ⟨by kernel_rfl⟩
instance : TyZ Try.prog 93 (.agg #[.slice none 0 0, .slice none 0 0]) := ⟨by kernel_rfl⟩
instance : NotI Try.prog 93 := ⟨by kernel_rfl⟩
instance : TyF Try.prog 93 0 0 91 := ⟨⟨_, _, Try.underlying93, rfl, rfl, rfl⟩⟩
instance : TyF Try.prog 93 1 1 90 := ⟨⟨_, _, Try.underlying93, rfl, rfl, rfl⟩⟩
instance : TyPl Try.prog 93 [(0, 1), (1, 1)] := ⟨⟨_, Try.underlying93, by kernel_rfl⟩⟩
instance : TySz Try.prog 94 1 := ⟨by kernel_rfl⟩
instance : TyB Try.prog 94 24 := ⟨by kernel_rfl⟩
instance : Agg Try.prog 94 false := ⟨by kernel_rfl⟩
instance : TyU Try.prog 94 (.slice 96) := ⟨Try.underlying94⟩
instance : TyZ Try.prog 94 (.slice none 0 0) := ⟨by kernel_rfl⟩
instance : TySz Try.prog 95 4 := ⟨by kernel_rfl⟩
instance : TyB Try.prog 95 32 := ⟨by kernel_rfl⟩
instance : Agg Try.prog 95 true := ⟨by kernel_rfl⟩
instance : TyZ Try.prog 95 (.agg #[.int .i64 0, .int .i64 0, .int .i32 0, .int .i64 0]) := ⟨by kernel_rfl⟩
instance : NotI Try.prog 95 := ⟨by kernel_rfl⟩
instance : TyF Try.prog 95 0 0 3 := ⟨⟨_, _, Try.underlying95, rfl, rfl, rfl⟩⟩
instance : TyF Try.prog 95 1 1 3 := ⟨⟨_, _, Try.underlying95, rfl, rfl, rfl⟩⟩
instance : TyF Try.prog 95 2 2 21 := ⟨⟨_, _, Try.underlying95, rfl, rfl, rfl⟩⟩
instance : TyF Try.prog 95 3 3 61 := ⟨⟨_, _, Try.underlying95, rfl, rfl, rfl⟩⟩
instance : TyPl Try.prog 95 [(0, 1), (1, 1), (2, 1), (3, 1)] := ⟨⟨_, Try.underlying95, by kernel_rfl⟩⟩
instance : TySz Try.prog 96 4 := ⟨by kernel_rfl⟩
instance : TyB Try.prog 96 32 := ⟨by kernel_rfl⟩
instance : Agg Try.prog 96 true := ⟨by kernel_rfl⟩
instance : TyZ Try.prog 96 (.agg #[.int .i64 0, .int .i64 0, .int .i32 0, .int .i64 0]) := ⟨by kernel_rfl⟩
instance : NotI Try.prog 96 := ⟨by kernel_rfl⟩
instance : TyF Try.prog 96 0 0 3 := ⟨⟨_, _, Try.underlying96, rfl, rfl, rfl⟩⟩
instance : TyF Try.prog 96 1 1 3 := ⟨⟨_, _, Try.underlying96, rfl, rfl, rfl⟩⟩
instance : TyF Try.prog 96 2 2 21 := ⟨⟨_, _, Try.underlying96, rfl, rfl, rfl⟩⟩
instance : TyF Try.prog 96 3 3 61 := ⟨⟨_, _, Try.underlying96, rfl, rfl, rfl⟩⟩
instance : TyPl Try.prog 96 [(0, 1), (1, 1), (2, 1), (3, 1)] := ⟨⟨_, Try.underlying96, by kernel_rfl⟩⟩
instance : TySz Try.prog 98 1 := ⟨by kernel_rfl⟩
instance : TyB Try.prog 98 8 := ⟨by kernel_rfl⟩
instance : Agg Try.prog 98 false := ⟨by kernel_rfl⟩
instance : TyZ Try.prog 98 (.nilFunc) := ⟨by kernel_rfl⟩
instance : TySz Try.prog 99 1 := ⟨by kernel_rfl⟩
instance : TyB Try.prog 99 8 := ⟨by kernel_rfl⟩
instance : Agg Try.prog 99 false := ⟨by kernel_rfl⟩
instance : TyZ Try.prog 99 (.nilFunc) := ⟨by kernel_rfl⟩
instance : TySz Try.prog 100 1 := ⟨by kernel_rfl⟩
instance : TyB Try.prog 100 8 := ⟨by kernel_rfl⟩
instance : Agg Try.prog 100 false := ⟨by kernel_rfl⟩
instance : TyZ Try.prog 100 (.nilFunc) := ⟨by kernel_rfl⟩
instance : TySz Try.prog 101 1 := ⟨by kernel_rfl⟩
instance : TyB Try.prog 101 8 := ⟨by kernel_rfl⟩
instance : Agg Try.prog 101 false := ⟨by kernel_rfl⟩
instance : TyZ Try.prog 101 (.nilFunc) := ⟨by kernel_rfl⟩
instance : TySz Try.prog 102 3 := ⟨by kernel_rfl⟩
instance : TyB Try.prog 102 24 := ⟨by kernel_rfl⟩
instance : Agg Try.prog 102 true := ⟨by kernel_rfl⟩
instance : TyZ Try.prog 102 (.agg #[.int .i64 0, .int .i32 0, .int .i64 0]) := ⟨by kernel_rfl⟩
instance : NotI Try.prog 102 := ⟨by kernel_rfl⟩
instance : TyF Try.prog 102 0 0 3 := ⟨⟨_, _, Try.underlying102, rfl, rfl, rfl⟩⟩
instance : TyF Try.prog 102 1 1 21 := ⟨⟨_, _, Try.underlying102, rfl, rfl, rfl⟩⟩
instance : TyF Try.prog 102 2 2 61 := ⟨⟨_, _, Try.underlying102, rfl, rfl, rfl⟩⟩
instance : TyPl Try.prog 102 [(0, 1), (1, 1), (2, 1)] := ⟨⟨_, Try.underlying102, by kernel_rfl⟩⟩
instance : TySz Try.prog 103 3 := ⟨by kernel_rfl⟩
instance : TyB Try.prog 103 24 := ⟨by kernel_rfl⟩
instance : Agg Try.prog 103 true := ⟨by kernel_rfl⟩
instance : TyZ Try.prog 103 (.agg #[.int .i64 0, .int .i32 0, .int .i64 0]) := ⟨by kernel_rfl⟩
instance : NotI Try.prog 103 := ⟨by kernel_rfl⟩
instance : TyF Try.prog 103 0 0 3 := ⟨⟨_, _, Try.underlying103, rfl, rfl, rfl⟩⟩
instance : TyF Try.prog 103 1 1 21 := ⟨⟨_, _, Try.underlying103, rfl, rfl, rfl⟩⟩
instance : TyF Try.prog 103 2 2 61 := ⟨⟨_, _, Try.underlying103, rfl, rfl, rfl⟩⟩
instance : TyPl Try.prog 103 [(0, 1), (1, 1), (2, 1)] := ⟨⟨_, Try.underlying103, by kernel_rfl⟩⟩
instance : TySz Try.prog 104 13 := ⟨by kernel_rfl⟩
instance : TyB Try.prog 104 104 := ⟨by kernel_rfl⟩
instance : Agg Try.prog 104 true := ⟨by kernel_rfl⟩
instance : TyZ Try.prog 104 (.agg #[.int .i64 0, .int .i32 0, .int .i64 0, .int .i64 0, .slice none 0 0, .int .i32 0, .int .i32 0, .int .i32 0, .int .i32 0, .int .i64 0, .int .i64 0, .int .u32 0, .int .i64 0]) := ⟨by kernel_rfl⟩
instance : NotI Try.prog 104 := ⟨by kernel_rfl⟩
instance : TyF Try.prog 104 0 0 3 := ⟨⟨_, _, Try.underlying104, rfl, rfl, rfl⟩⟩
instance : TyF Try.prog 104 1 1 37 := ⟨⟨_, _, Try.underlying104, rfl, rfl, rfl⟩⟩
instance : TyPl Try.prog 104 [(0, 1), (1, 12)] := ⟨⟨_, Try.underlying104, by kernel_rfl⟩⟩
instance : TySz Try.prog 105 13 := ⟨by kernel_rfl⟩
instance : TyB Try.prog 105 104 := ⟨by kernel_rfl⟩
instance : Agg Try.prog 105 true := ⟨by kernel_rfl⟩
instance : TyZ Try.prog 105 (.agg #[.int .i64 0, .int .i32 0, .int .i64 0, .int .i64 0, .slice none 0 0, .int .i32 0, .int .i32 0, .int .i32 0, .int .i32 0, .int .i64 0, .int .i64 0, .int .u32 0, .int .i64 0]) := ⟨by kernel_rfl⟩
instance : NotI Try.prog 105 := ⟨by kernel_rfl⟩
instance : TyF Try.prog 105 0 0 3 := ⟨⟨_, _, Try.underlying105, rfl, rfl, rfl⟩⟩
instance : TyF Try.prog 105 1 1 37 := ⟨⟨_, _, Try.underlying105, rfl, rfl, rfl⟩⟩
instance : TyPl Try.prog 105 [(0, 1), (1, 12)] := ⟨⟨_, Try.underlying105, by kernel_rfl⟩⟩
instance : TySz Try.prog 107 1 := ⟨by kernel_rfl⟩
instance : TyB Try.prog 107 8 := ⟨by kernel_rfl⟩
instance : Agg Try.prog 107 false := ⟨by kernel_rfl⟩
instance : TyZ Try.prog 107 (.nilFunc) := ⟨by kernel_rfl⟩
instance : TySz Try.prog 108 1 := ⟨by kernel_rfl⟩
instance : TyB Try.prog 108 24 := ⟨by kernel_rfl⟩
instance : Agg Try.prog 108 false := ⟨by kernel_rfl⟩
instance : TyU Try.prog 108 (.slice 136) := ⟨Try.underlying108⟩
instance : TyZ Try.prog 108 (.slice none 0 0) := ⟨by kernel_rfl⟩
instance : TySz Try.prog 109 1 := ⟨by kernel_rfl⟩
instance : TyB Try.prog 109 24 := ⟨by kernel_rfl⟩
instance : Agg Try.prog 109 false := ⟨by kernel_rfl⟩
instance : TyU Try.prog 109 (.slice 136) := ⟨Try.underlying109⟩
instance : TyZ Try.prog 109 (.slice none 0 0) := ⟨by kernel_rfl⟩
instance : TySz Try.prog 110 2 := ⟨by kernel_rfl⟩
instance : TyB Try.prog 110 32 := ⟨by kernel_rfl⟩
instance : Agg Try.prog 110 true := ⟨by kernel_rfl⟩
instance : TyZ Try.prog 110 (.agg #[.slice none 0 0, .int .i64 0]) := ⟨by kernel_rfl⟩
instance : NotI Try.prog 110 := ⟨by kernel_rfl⟩
instance : TyF Try.prog 110 0 0 109 := ⟨⟨_, _, Try.underlying110, rfl, rfl, rfl⟩⟩
instance : TyF Try.prog 110 1 1 3 := ⟨⟨_, _, Try.underlying110, rfl, rfl, rfl⟩⟩
instance : TyPl Try.prog 110 [(0, 1), (1, 1)] := ⟨⟨_, Try.underlying110, by kernel_rfl⟩⟩
instance : TySz Try.prog 111 2 := ⟨by kernel_rfl⟩
instance : TyB Try.prog 111 32 := ⟨by kernel_rfl⟩
instance : Agg Try.prog 111 true := ⟨by kernel_rfl⟩
instance : TyZ Try.prog 111 (.agg #[.slice none 0 0, .int .i64 0]) := ⟨by kernel_rfl⟩
instance : NotI Try.prog 111 := ⟨by kernel_rfl⟩
instance : TyF Try.prog 111 0 0 109 := ⟨⟨_, _, Try.underlying111, rfl, rfl, rfl⟩⟩
instance : TyF Try.prog 111 1 1 3 := ⟨⟨_, _, Try.underlying111, rfl, rfl, rfl⟩⟩
instance : TyPl Try.prog 111 [(0, 1), (1, 1)] := ⟨⟨_, Try.underlying111, by kernel_rfl⟩⟩
instance : TySz Try.prog 112 1 := ⟨by kernel_rfl⟩
instance : TyB Try.prog 112 24 := ⟨by kernel_rfl⟩
instance : Agg Try.prog 112 false := ⟨by kernel_rfl⟩
instance : TyU Try.prog 112 (.slice 127) := ⟨Try.underlying112⟩
instance : TyZ Try.prog 112 (.slice none 0 0) := ⟨by kernel_rfl⟩
instance : TySz Try.prog 113 1 := ⟨by kernel_rfl⟩
instance : TyB Try.prog 113 24 := ⟨by kernel_rfl⟩
instance : Agg Try.prog 113 true := ⟨by kernel_rfl⟩
instance : TyZ Try.prog 113 (.agg #[.slice none 0 0]) := ⟨by kernel_rfl⟩
instance : NotI Try.prog 113 := ⟨by kernel_rfl⟩
instance : TyF Try.prog 113 0 0 112 := ⟨⟨_, _, Try.underlying113, rfl, rfl, rfl⟩⟩
instance : TyPl Try.prog 113 [(0, 1)] := ⟨⟨_, Try.underlying113, by kernel_rfl⟩⟩
instance : TySz Try.prog 114 1 := ⟨by kernel_rfl⟩
instance : TyB Try.prog 114 24 := ⟨by kernel_rfl⟩
instance : Agg Try.prog 114 true := ⟨by kernel_rfl⟩
instance : TyZ Try.prog 114 (.agg #[.slice none 0 0]) := ⟨by kernel_rfl⟩
instance : NotI Try.prog 114 := ⟨by kernel_rfl⟩
instance : TyF Try.prog 114 0 0 112 := ⟨⟨_, _, Try.underlying114, rfl, rfl, rfl⟩⟩
instance : TyPl Try.prog 114 [(0, 1)] := ⟨⟨_, Try.underlying114, by kernel_rfl⟩⟩
instance : TySz Try.prog 115 1 := ⟨by kernel_rfl⟩
instance : TyB Try.prog 115 8 := ⟨by kernel_rfl⟩
instance : Agg Try.prog 115 false := ⟨by kernel_rfl⟩
instance : TyZ Try.prog 115 (.nilFunc) := ⟨by kernel_rfl⟩
instance : TySz Try.prog 116 1 := ⟨by kernel_rfl⟩
instance : TyB Try.prog 116 8 := ⟨by kernel_rfl⟩
instance : Agg Try.prog 116 false := ⟨by kernel_rfl⟩
instance : TyU Try.prog 116 (.pointer 139) := ⟨Try.underlying116⟩
instance : TyZ Try.prog 116 (.pointer none) := ⟨by kernel_rfl⟩
instance : TySz Try.prog 117 1 := ⟨by kernel_rfl⟩
instance : TyB Try.prog 117 8 := ⟨by kernel_rfl⟩
instance : Agg Try.prog 117 false := ⟨by kernel_rfl⟩
instance : TyZ Try.prog 117 (.nilFunc) := ⟨by kernel_rfl⟩
instance : TySz Try.prog 118 2 := ⟨by kernel_rfl⟩
instance : TyB Try.prog 118 32 := ⟨by kernel_rfl⟩
instance : Agg Try.prog 118 true := ⟨by kernel_rfl⟩
instance : TyZ Try.prog 118 (.agg #[.slice none 0 0, .nilFunc]) := ⟨by kernel_rfl⟩
instance : NotI Try.prog 118 := ⟨by kernel_rfl⟩
instance : TyF Try.prog 118 0 0 23 := ⟨⟨_, _, Try.underlying118, rfl, rfl, rfl⟩⟩
instance : TyF Try.prog 118 1 1 44 := ⟨⟨_, _, Try.underlying118, rfl, rfl, rfl⟩⟩
instance : TyPl Try.prog 118 [(0, 1), (1, 1)] := ⟨⟨_, Try.underlying118, by kernel_rfl⟩⟩
instance : TySz Try.prog 119 2 := ⟨by kernel_rfl⟩
instance : TyB Try.prog 119 32 := ⟨by kernel_rfl⟩
instance : Agg Try.prog 119 true := ⟨by kernel_rfl⟩
instance : TyZ Try.prog 119 (.agg #[.slice none 0 0, .nilFunc]) := ⟨by kernel_rfl⟩
instance : NotI Try.prog 119 := ⟨by kernel_rfl⟩
instance : TyF Try.prog 119 0 0 23 := ⟨⟨_, _, Try.underlying119, rfl, rfl, rfl⟩⟩
instance : TyF Try.prog 119 1 1 44 := ⟨⟨_, _, Try.underlying119, rfl, rfl, rfl⟩⟩
instance : TyPl Try.prog 119 [(0, 1), (1, 1)] := ⟨⟨_, Try.underlying119, by kernel_rfl⟩⟩
instance : TySz Try.prog 120 3 := ⟨by kernel_rfl⟩
instance : TyB Try.prog 120 40 := ⟨by kernel_rfl⟩
instance : Agg Try.prog 120 true := ⟨by kernel_rfl⟩
instance : TyZ Try.prog 120 (.agg #[.slice none 0 0, .int .i64 0, .int .i64 0]) := ⟨by kernel_rfl⟩
instance : NotI Try.prog 120 := ⟨by kernel_rfl⟩
instance : TyF Try.prog 120 0 0 56 := ⟨⟨_, _, Try.underlying120, rfl, rfl, rfl⟩⟩
instance : TyF Try.prog 120 1 1 3 := ⟨⟨_, _, Try.underlying120, rfl, rfl, rfl⟩⟩
instance : TyF Try.prog 120 2 2 3 := ⟨⟨_, _, Try.underlying120, rfl, rfl, rfl⟩⟩
instance : TyPl Try.prog 120 [(0, 1), (1, 1), (2, 1)] := ⟨⟨_, Try.underlying120, by kernel_rfl⟩⟩
instance : TySz Try.prog 121 3 := ⟨by kernel_rfl⟩
instance : TyB Try.prog 121 40 := ⟨by kernel_rfl⟩
instance : Agg Try.prog 121 true := ⟨by kernel_rfl⟩
instance : TyZ Try.prog 121 (.agg #[.slice none 0 0, .int .i64 0, .int .i64 0]) := ⟨by kernel_rfl⟩
instance : NotI Try.prog 121 := ⟨by kernel_rfl⟩
instance : TyF Try.prog 121 0 0 56 := ⟨⟨_, _, Try.underlying121, rfl, rfl, rfl⟩⟩
instance : TyF Try.prog 121 1 1 3 := ⟨⟨_, _, Try.underlying121, rfl, rfl, rfl⟩⟩
instance : TyF Try.prog 121 2 2 3 := ⟨⟨_, _, Try.underlying121, rfl, rfl, rfl⟩⟩
instance : TyPl Try.prog 121 [(0, 1), (1, 1), (2, 1)] := ⟨⟨_, Try.underlying121, by kernel_rfl⟩⟩
instance : TySz Try.prog 122 1 := ⟨by kernel_rfl⟩
instance : TyB Try.prog 122 8 := ⟨by kernel_rfl⟩
instance : Agg Try.prog 122 false := ⟨by kernel_rfl⟩
instance : TyU Try.prog 122 (.pointer 37) := ⟨Try.underlying122⟩
instance : TyZ Try.prog 122 (.pointer none) := ⟨by kernel_rfl⟩
instance : TySz Try.prog 123 1 := ⟨by kernel_rfl⟩
instance : TyB Try.prog 123 8 := ⟨by kernel_rfl⟩
instance : Agg Try.prog 123 false := ⟨by kernel_rfl⟩
instance : TyZ Try.prog 123 (.nilFunc) := ⟨by kernel_rfl⟩
instance : TySz Try.prog 124 1 := ⟨by kernel_rfl⟩
instance : TyB Try.prog 124 8 := ⟨by kernel_rfl⟩
instance : Agg Try.prog 124 false := ⟨by kernel_rfl⟩
instance : TyZ Try.prog 124 (.nilFunc) := ⟨by kernel_rfl⟩
instance : TySz Try.prog 125 1 := ⟨by kernel_rfl⟩
instance : TyB Try.prog 125 8 := ⟨by kernel_rfl⟩
instance : Agg Try.prog 125 false := ⟨by kernel_rfl⟩
instance : TyZ Try.prog 125 (.nilFunc) := ⟨by kernel_rfl⟩
instance : TySz Try.prog 126 13 := ⟨by kernel_rfl⟩
instance : TyB Try.prog 126 104 := ⟨by kernel_rfl⟩
instance : Agg Try.prog 126 true := ⟨by kernel_rfl⟩
instance : TyZ Try.prog 126 (.agg #[.int .i32 0, .int .i64 0, .int .i64 0, .slice none 0 0, .int .i32 0, .int .i32 0, .int .i32 0, .int .i32 0, .int .i64 0, .int .i64 0, .int .u32 0, .int .i64 0, .int .i32 0]) := ⟨by kernel_rfl⟩
instance : NotI Try.prog 126 := ⟨by kernel_rfl⟩
instance : TyF Try.prog 126 0 0 37 := ⟨⟨_, _, Try.underlying126, rfl, rfl, rfl⟩⟩
instance : TyF Try.prog 126 1 12 21 := ⟨⟨_, _, Try.underlying126, rfl, rfl, rfl⟩⟩
instance : TyPl Try.prog 126 [(0, 12), (12, 1)] := ⟨⟨_, Try.underlying126, by kernel_rfl⟩⟩
instance : TySz Try.prog 127 13 := ⟨by kernel_rfl⟩
instance : TyB Try.prog 127 104 := ⟨by kernel_rfl⟩
instance : Agg Try.prog 127 true := ⟨by kernel_rfl⟩
instance : TyZ Try.prog 127 (.agg #[.int .i32 0, .int .i64 0, .int .i64 0, .slice none 0 0, .int .i32 0, .int .i32 0, .int .i32 0, .int .i32 0, .int .i64 0, .int .i64 0, .int .u32 0, .int .i64 0, .int .i32 0]) := ⟨by kernel_rfl⟩
instance : NotI Try.prog 127 := ⟨by kernel_rfl⟩
instance : TyF Try.prog 127 0 0 37 := ⟨⟨_, _, Try.underlying127, rfl, rfl, rfl⟩⟩
instance : TyF Try.prog 127 1 12 21 := ⟨⟨_, _, Try.underlying127, rfl, rfl, rfl⟩⟩
instance : TyPl Try.prog 127 [(0, 12), (12, 1)] := ⟨⟨_, Try.underlying127, by kernel_rfl⟩⟩
instance : TySz Try.prog 128 1 := ⟨by kernel_rfl⟩
instance : TyB Try.prog 128 8 := ⟨by kernel_rfl⟩
instance : Agg Try.prog 128 false := ⟨by kernel_rfl⟩
instance : TyZ Try.prog 128 (.nilFunc) := ⟨by kernel_rfl⟩
instance : TySz Try.prog 129 1 := ⟨by kernel_rfl⟩
instance : TyB Try.prog 129 8 := ⟨by kernel_rfl⟩
instance : Agg Try.prog 129 false := ⟨by kernel_rfl⟩
instance : TyZ Try.prog 129 (.nilFunc) := ⟨by kernel_rfl⟩
instance : TySz Try.prog 130 1 := ⟨by kernel_rfl⟩
instance : TyB Try.prog 130 8 := ⟨by kernel_rfl⟩
instance : Agg Try.prog 130 false := ⟨by kernel_rfl⟩
instance : TyU Try.prog 130 (.pointer 96) := ⟨Try.underlying130⟩
instance : TyZ Try.prog 130 (.pointer none) := ⟨by kernel_rfl⟩
instance : TySz Try.prog 131 1 := ⟨by kernel_rfl⟩
instance : TyB Try.prog 131 8 := ⟨by kernel_rfl⟩
instance : Agg Try.prog 131 false := ⟨by kernel_rfl⟩
instance : TyZ Try.prog 131 (.nilFunc) := ⟨by kernel_rfl⟩
instance : TySz Try.prog 132 1 := ⟨by kernel_rfl⟩
instance : TyB Try.prog 132 8 := ⟨by kernel_rfl⟩
instance : Agg Try.prog 132 false := ⟨by kernel_rfl⟩
instance : TyZ Try.prog 132 (.nilFunc) := ⟨by kernel_rfl⟩
instance : TySz Try.prog 133 1 := ⟨by kernel_rfl⟩
instance : TyB Try.prog 133 8 := ⟨by kernel_rfl⟩
instance : Agg Try.prog 133 false := ⟨by kernel_rfl⟩
instance : TyU Try.prog 133 (.pointer 109) := ⟨Try.underlying133⟩
instance : TyZ Try.prog 133 (.pointer none) := ⟨by kernel_rfl⟩
instance : TySz Try.prog 134 1 := ⟨by kernel_rfl⟩
instance : TyB Try.prog 134 8 := ⟨by kernel_rfl⟩
instance : Agg Try.prog 134 false := ⟨by kernel_rfl⟩
instance : TyZ Try.prog 134 (.nilFunc) := ⟨by kernel_rfl⟩
instance : TySz Try.prog 135 14 := ⟨by kernel_rfl⟩
instance : TyB Try.prog 135 112 := ⟨by kernel_rfl⟩
instance : Agg Try.prog 135 true := ⟨by kernel_rfl⟩
instance : TyZ Try.prog 135 (.agg #[.int .i64 0, .int .i32 0, .int .i64 0, .int .i64 0, .slice none 0 0, .int .i32 0, .int .i32 0, .int .i32 0, .int .i32 0, .int .i64 0, .int .i64 0, .int .u32 0, .int .i64 0, .int .i64 0]) := ⟨by kernel_rfl⟩
instance : NotI Try.prog 135 := ⟨by kernel_rfl⟩
instance : TyF Try.prog 135 0 0 105 := ⟨⟨_, _, Try.underlying135, rfl, rfl, rfl⟩⟩
instance : TyF Try.prog 135 1 13 3 := ⟨⟨_, _, Try.underlying135, rfl, rfl, rfl⟩⟩
instance : TyPl Try.prog 135 [(0, 13), (13, 1)] := ⟨⟨_, Try.underlying135, by kernel_rfl⟩⟩
instance : TySz Try.prog 136 14 := ⟨by kernel_rfl⟩
instance : TyB Try.prog 136 112 := ⟨by kernel_rfl⟩
instance : Agg Try.prog 136 true := ⟨by kernel_rfl⟩
instance : TyZ Try.prog 136 (.agg #[.int .i64 0, .int .i32 0, .int .i64 0, .int .i64 0, .slice none 0 0, .int .i32 0, .int .i32 0, .int .i32 0, .int .i32 0, .int .i64 0, .int .i64 0, .int .u32 0, .int .i64 0, .int .i64 0]) := ⟨by kernel_rfl⟩
instance : NotI Try.prog 136 := ⟨by kernel_rfl⟩
instance : TyF Try.prog 136 0 0 105 := ⟨⟨_, _, Try.underlying136, rfl, rfl, rfl⟩⟩
instance : TyF Try.prog 136 1 13 3 := ⟨⟨_, _, Try.underlying136, rfl, rfl, rfl⟩⟩
instance : TyPl Try.prog 136 [(0, 13), (13, 1)] := ⟨⟨_, Try.underlying136, by kernel_rfl⟩⟩
instance : TySz Try.prog 137 1 := ⟨by kernel_rfl⟩
instance : TyB Try.prog 137 8 := ⟨by kernel_rfl⟩
instance : Agg Try.prog 137 false := ⟨by kernel_rfl⟩
instance : TyZ Try.prog 137 (.nilFunc) := ⟨by kernel_rfl⟩
instance : TySz Try.prog 138 1 := ⟨by kernel_rfl⟩
instance : TyB Try.prog 138 8 := ⟨by kernel_rfl⟩
instance : Agg Try.prog 138 true := ⟨by kernel_rfl⟩
instance : TyZ Try.prog 138 (.agg #[.int .u64 0]) := ⟨by kernel_rfl⟩
instance : NotI Try.prog 138 := ⟨by kernel_rfl⟩
instance : TyF Try.prog 138 0 0 24 := ⟨⟨_, _, Try.underlying138, rfl, rfl, rfl⟩⟩
instance : TyPl Try.prog 138 [(0, 1)] := ⟨⟨_, Try.underlying138, by kernel_rfl⟩⟩
instance : TySz Try.prog 139 1 := ⟨by kernel_rfl⟩
instance : TyB Try.prog 139 8 := ⟨by kernel_rfl⟩
instance : Agg Try.prog 139 true := ⟨by kernel_rfl⟩
instance : TyZ Try.prog 139 (.agg #[.int .u64 0]) := ⟨by kernel_rfl⟩
instance : NotI Try.prog 139 := ⟨by kernel_rfl⟩
instance : TyF Try.prog 139 0 0 24 := ⟨⟨_, _, Try.underlying139, rfl, rfl, rfl⟩⟩
instance : TyPl Try.prog 139 [(0, 1)] := ⟨⟨_, Try.underlying139, by kernel_rfl⟩⟩
instance : TySz Try.prog 140 1 := ⟨by kernel_rfl⟩
instance : TyB Try.prog 140 8 := ⟨by kernel_rfl⟩
instance : Agg Try.prog 140 false := ⟨by kernel_rfl⟩
instance : TyZ Try.prog 140 (.nilFunc) := ⟨by kernel_rfl⟩
instance : TySz Try.prog 141 1 := ⟨by kernel_rfl⟩
instance : TyB Try.prog 141 8 := ⟨by kernel_rfl⟩
instance : Agg Try.prog 141 false := ⟨by kernel_rfl⟩
instance : TyZ Try.prog 141 (.nilFunc) := ⟨by kernel_rfl⟩
instance : TySz Try.prog 142 1 := ⟨by kernel_rfl⟩
instance : TyB Try.prog 142 8 := ⟨by kernel_rfl⟩
instance : Agg Try.prog 142 false := ⟨by kernel_rfl⟩
instance : TyZ Try.prog 142 (.nilFunc) := ⟨by kernel_rfl⟩
instance : TySz Try.prog 144 1 := ⟨by kernel_rfl⟩
instance : TyB Try.prog 144 8 := ⟨by kernel_rfl⟩
instance : Agg Try.prog 144 false := ⟨by kernel_rfl⟩
instance : TyZ Try.prog 144 (.nilFunc) := ⟨by kernel_rfl⟩
instance : TySz Try.prog 145 1 := ⟨by kernel_rfl⟩
instance : TyB Try.prog 145 8 := ⟨by kernel_rfl⟩
instance : Agg Try.prog 145 false := ⟨by kernel_rfl⟩
instance : TyZ Try.prog 145 (.nilFunc) := ⟨by kernel_rfl⟩
instance : TySz Try.prog 146 1 := ⟨by kernel_rfl⟩
instance : TyB Try.prog 146 16 := ⟨by kernel_rfl⟩
instance : Agg Try.prog 146 false := ⟨by kernel_rfl⟩
instance : TyZ Try.prog 146 (.nilIface) := ⟨by kernel_rfl⟩
instance : TySz Try.prog 147 1 := ⟨by kernel_rfl⟩
instance : TyB Try.prog 147 16 := ⟨by kernel_rfl⟩
instance : Agg Try.prog 147 false := ⟨by kernel_rfl⟩
instance : TyZ Try.prog 147 (.nilIface) := ⟨by kernel_rfl⟩
instance : TySz Try.prog 148 1 := ⟨by kernel_rfl⟩
instance : TyB Try.prog 148 8 := ⟨by kernel_rfl⟩
instance : Agg Try.prog 148 false := ⟨by kernel_rfl⟩
instance : TyZ Try.prog 148 (.nilFunc) := ⟨by kernel_rfl⟩
instance : TySz Try.prog 149 1 := ⟨by kernel_rfl⟩
instance : TyB Try.prog 149 8 := ⟨by kernel_rfl⟩
instance : Agg Try.prog 149 false := ⟨by kernel_rfl⟩
instance : TyZ Try.prog 149 (.nilFunc) := ⟨by kernel_rfl⟩
instance : TySz Try.prog 150 1 := ⟨by kernel_rfl⟩
instance : TyB Try.prog 150 8 := ⟨by kernel_rfl⟩
instance : Agg Try.prog 150 false := ⟨by kernel_rfl⟩
instance : TyZ Try.prog 150 (.nilFunc) := ⟨by kernel_rfl⟩
instance : TySz Try.prog 151 1 := ⟨by kernel_rfl⟩
instance : TyB Try.prog 151 8 := ⟨by kernel_rfl⟩
instance : Agg Try.prog 151 false := ⟨by kernel_rfl⟩
instance : TyZ Try.prog 151 (.nilFunc) := ⟨by kernel_rfl⟩
instance : TySz Try.prog 152 1 := ⟨by kernel_rfl⟩
instance : TyB Try.prog 152 8 := ⟨by kernel_rfl⟩
instance : Agg Try.prog 152 false := ⟨by kernel_rfl⟩
instance : TyZ Try.prog 152 (.nilFunc) := ⟨by kernel_rfl⟩
instance : TySz Try.prog 153 1 := ⟨by kernel_rfl⟩
instance : TyB Try.prog 153 8 := ⟨by kernel_rfl⟩
instance : Agg Try.prog 153 false := ⟨by kernel_rfl⟩
instance : TyZ Try.prog 153 (.nilFunc) := ⟨by kernel_rfl⟩
instance : TySz Try.prog 154 1 := ⟨by kernel_rfl⟩
instance : TyB Try.prog 154 8 := ⟨by kernel_rfl⟩
instance : Agg Try.prog 154 false := ⟨by kernel_rfl⟩
instance : TyZ Try.prog 154 (.nilFunc) := ⟨by kernel_rfl⟩
instance : TySz Try.prog 155 1 := ⟨by kernel_rfl⟩
instance : TyB Try.prog 155 8 := ⟨by kernel_rfl⟩
instance : Agg Try.prog 155 false := ⟨by kernel_rfl⟩
instance : TyZ Try.prog 155 (.nilFunc) := ⟨by kernel_rfl⟩
instance : TySz Try.prog 156 1 := ⟨by kernel_rfl⟩
instance : TyB Try.prog 156 8 := ⟨by kernel_rfl⟩
instance : Agg Try.prog 156 false := ⟨by kernel_rfl⟩
instance : TyZ Try.prog 156 (.nilFunc) := ⟨by kernel_rfl⟩
instance : TySz Try.prog 165 1 := ⟨by kernel_rfl⟩
instance : TyB Try.prog 165 8 := ⟨by kernel_rfl⟩
instance : Agg Try.prog 165 false := ⟨by kernel_rfl⟩
instance : TyU Try.prog 165 (.pointer 5) := ⟨Try.underlying165⟩
instance : TyZ Try.prog 165 (.pointer none) := ⟨by kernel_rfl⟩
instance : TySz Try.prog 170 1 := ⟨by kernel_rfl⟩
instance : TyB Try.prog 170 8 := ⟨by kernel_rfl⟩
instance : Agg Try.prog 170 false := ⟨by kernel_rfl⟩
instance : TyZ Try.prog 170 (.nilFunc) := ⟨by kernel_rfl⟩
instance : TySz Try.prog 171 1 := ⟨by kernel_rfl⟩
instance : TyB Try.prog 171 8 := ⟨by kernel_rfl⟩
instance : Agg Try.prog 171 false := ⟨by kernel_rfl⟩
instance : TyZ Try.prog 171 (.nilFunc) := ⟨by kernel_rfl⟩
instance : TySz Try.prog 172 1 := ⟨by kernel_rfl⟩
instance : TyB Try.prog 172 8 := ⟨by kernel_rfl⟩
instance : Agg Try.prog 172 false := ⟨by kernel_rfl⟩
instance : TyZ Try.prog 172 (.nilFunc) := ⟨by kernel_rfl⟩
instance : TySz Try.prog 173 1 := ⟨by kernel_rfl⟩
instance : TyB Try.prog 173 8 := ⟨by kernel_rfl⟩
instance : Agg Try.prog 173 false := ⟨by kernel_rfl⟩
instance : TyZ Try.prog 173 (.nilFunc) := ⟨by kernel_rfl⟩
instance : TySz Try.prog 174 1 := ⟨by kernel_rfl⟩
instance : TyB Try.prog 174 8 := ⟨by kernel_rfl⟩
instance : Agg Try.prog 174 false := ⟨by kernel_rfl⟩
instance : TyZ Try.prog 174 (.nilFunc) := ⟨by kernel_rfl⟩
instance : TySz Try.prog 175 1 := ⟨by kernel_rfl⟩
instance : TyB Try.prog 175 8 := ⟨by kernel_rfl⟩
instance : Agg Try.prog 175 false := ⟨by kernel_rfl⟩
instance : TyZ Try.prog 175 (.nilFunc) := ⟨by kernel_rfl⟩
instance : Meth Try.prog 31 "Burn" 25 true := ⟨by kernel_rfl⟩
instance : Meth Try.prog 31 "Come" 29 true := ⟨by kernel_rfl⟩
instance : Meth Try.prog 31 "Drop" 21 true := ⟨by kernel_rfl⟩
instance : Meth Try.prog 31 "Enter" 30 true := ⟨by kernel_rfl⟩
instance : Meth Try.prog 31 "Find" 17 true := ⟨by kernel_rfl⟩
instance : Meth Try.prog 31 "Fuel" 27 true := ⟨by kernel_rfl⟩
instance : Meth Try.prog 31 "Held" 20 true := ⟨by kernel_rfl⟩
instance : Meth Try.prog 31 "Hold" 43 true := ⟨by kernel_rfl⟩
instance : Meth Try.prog 31 "Live" 18 true := ⟨by kernel_rfl⟩
instance : Meth Try.prog 31 "Push" 16 true := ⟨by kernel_rfl⟩
instance : Meth Try.prog 31 "Room" 19 true := ⟨by kernel_rfl⟩
instance : Meth Try.prog 31 "Wait" 24 true := ⟨by kernel_rfl⟩
instance : Meth Try.prog 31 "Wake" 26 true := ⟨by kernel_rfl⟩
instance : Meth Try.prog 31 "confidant/deck.event" 44 true := ⟨by kernel_rfl⟩
instance : Meth Try.prog 31 "confidant/deck.has" 37 true := ⟨by kernel_rfl⟩
instance : Meth Try.prog 31 "confidant/deck.others" 40 true := ⟨by kernel_rfl⟩
instance : Meth Try.prog 31 "confidant/deck.put" 52 true := ⟨by kernel_rfl⟩
instance : Meth Try.prog 31 "confidant/deck.stolen" 42 true := ⟨by kernel_rfl⟩
instance : Meth Try.prog 51 "Break" 28 true := ⟨by kernel_rfl⟩
instance : Meth Try.prog 51 "Get" 74 true := ⟨by kernel_rfl⟩
instance : Meth Try.prog 51 "Make" 23 true := ⟨by kernel_rfl⟩
instance : Meth Try.prog 51 "confidant/future.at" 67 true := ⟨by kernel_rfl⟩
instance : Meth Try.prog 51 "confidant/future.change" 53 true := ⟨by kernel_rfl⟩
instance : Meth Try.prog 70 "Len" 45 true := ⟨by kernel_rfl⟩
instance : Meth Try.prog 70 "Pop" 56 true := ⟨by kernel_rfl⟩
instance : Meth Try.prog 70 "Push" 55 true := ⟨by kernel_rfl⟩
instance : Meth Try.prog 72 "Add" 50 true := ⟨by kernel_rfl⟩
instance : Meth Try.prog 72 "Len" 46 true := ⟨by kernel_rfl⟩
instance : Meth Try.prog 72 "Look" 51 true := ⟨by kernel_rfl⟩
instance : Meth Try.prog 74 "Next" 35 true := ⟨by kernel_rfl⟩
instance : Meth Try.prog 80 "Half" 62 true := ⟨by kernel_rfl⟩
instance : Meth Try.prog 80 "Len" 41 true := ⟨by kernel_rfl⟩
instance : Meth Try.prog 80 "Pop" 39 true := ⟨by kernel_rfl⟩
instance : Meth Try.prog 80 "Push" 38 true := ⟨by kernel_rfl⟩
instance : Meth Try.prog 80 "Room" 47 true := ⟨by kernel_rfl⟩
instance : Meth Try.prog 80 "Steal" 63 true := ⟨by kernel_rfl⟩
instance : Meth Try.prog 80 "confidant/ring.at" 61 true := ⟨by kernel_rfl⟩
instance : Meth Try.prog 116 "Below" 59 true := ⟨by kernel_rfl⟩
instance : Meth Try.prog 116 "Next" 71 true := ⟨by kernel_rfl⟩
instance : Meth Try.prog 133 "Len" 102 false := ⟨by kernel_rfl⟩
instance : Meth Try.prog 133 "Less" 103 false := ⟨by kernel_rfl⟩
instance : Meth Try.prog 133 "Pop" 112 true := ⟨by kernel_rfl⟩
instance : Meth Try.prog 133 "Push" 113 true := ⟨by kernel_rfl⟩
instance : Meth Try.prog 133 "Swap" 104 false := ⟨by kernel_rfl⟩
instance : HasF Try.prog 2 := ⟨by kernel_rfl⟩
instance : HasF Try.prog 3 := ⟨by kernel_rfl⟩
instance : HasF Try.prog 4 := ⟨by kernel_rfl⟩
instance : HasF Try.prog 5 := ⟨by kernel_rfl⟩
instance : HasF Try.prog 6 := ⟨by kernel_rfl⟩
instance : HasF Try.prog 7 := ⟨by kernel_rfl⟩
instance : HasF Try.prog 8 := ⟨by kernel_rfl⟩
instance : HasF Try.prog 9 := ⟨by kernel_rfl⟩
instance : HasF Try.prog 10 := ⟨by kernel_rfl⟩
instance : HasF Try.prog 11 := ⟨by kernel_rfl⟩
instance : HasF Try.prog 12 := ⟨by kernel_rfl⟩
instance : HasF Try.prog 13 := ⟨by kernel_rfl⟩
instance : HasF Try.prog 14 := ⟨by kernel_rfl⟩
instance : HasF Try.prog 15 := ⟨by kernel_rfl⟩
instance : HasF Try.prog 16 := ⟨by kernel_rfl⟩
instance : HasF Try.prog 17 := ⟨by kernel_rfl⟩
instance : HasF Try.prog 18 := ⟨by kernel_rfl⟩
instance : HasF Try.prog 19 := ⟨by kernel_rfl⟩
instance : HasF Try.prog 20 := ⟨by kernel_rfl⟩
instance : HasF Try.prog 21 := ⟨by kernel_rfl⟩
instance : HasF Try.prog 22 := ⟨by kernel_rfl⟩
instance : HasF Try.prog 23 := ⟨by kernel_rfl⟩
instance : HasF Try.prog 24 := ⟨by kernel_rfl⟩
instance : HasF Try.prog 25 := ⟨by kernel_rfl⟩
instance : HasF Try.prog 26 := ⟨by kernel_rfl⟩
instance : HasF Try.prog 27 := ⟨by kernel_rfl⟩
instance : HasF Try.prog 28 := ⟨by kernel_rfl⟩
instance : HasF Try.prog 29 := ⟨by kernel_rfl⟩
instance : HasF Try.prog 30 := ⟨by kernel_rfl⟩
instance : HasF Try.prog 31 := ⟨by kernel_rfl⟩
instance : HasF Try.prog 32 := ⟨by kernel_rfl⟩
instance : HasF Try.prog 33 := ⟨by kernel_rfl⟩
instance : HasF Try.prog 34 := ⟨by kernel_rfl⟩
instance : HasF Try.prog 35 := ⟨by kernel_rfl⟩
instance : HasF Try.prog 36 := ⟨by kernel_rfl⟩
instance : HasF Try.prog 37 := ⟨by kernel_rfl⟩
instance : HasF Try.prog 38 := ⟨by kernel_rfl⟩
instance : HasF Try.prog 39 := ⟨by kernel_rfl⟩
instance : HasF Try.prog 40 := ⟨by kernel_rfl⟩
instance : HasF Try.prog 41 := ⟨by kernel_rfl⟩
instance : HasF Try.prog 42 := ⟨by kernel_rfl⟩
instance : HasF Try.prog 43 := ⟨by kernel_rfl⟩
instance : HasF Try.prog 44 := ⟨by kernel_rfl⟩
instance : HasF Try.prog 45 := ⟨by kernel_rfl⟩
instance : HasF Try.prog 46 := ⟨by kernel_rfl⟩
instance : HasF Try.prog 47 := ⟨by kernel_rfl⟩
instance : HasF Try.prog 48 := ⟨by kernel_rfl⟩
instance : HasF Try.prog 49 := ⟨by kernel_rfl⟩
instance : HasF Try.prog 50 := ⟨by kernel_rfl⟩
instance : HasF Try.prog 51 := ⟨by kernel_rfl⟩
instance : HasF Try.prog 52 := ⟨by kernel_rfl⟩
instance : HasF Try.prog 53 := ⟨by kernel_rfl⟩
instance : HasF Try.prog 54 := ⟨by kernel_rfl⟩
instance : HasF Try.prog 55 := ⟨by kernel_rfl⟩
instance : HasF Try.prog 56 := ⟨by kernel_rfl⟩
instance : HasF Try.prog 57 := ⟨by kernel_rfl⟩
instance : HasF Try.prog 58 := ⟨by kernel_rfl⟩
instance : HasF Try.prog 59 := ⟨by kernel_rfl⟩
instance : HasF Try.prog 60 := ⟨by kernel_rfl⟩
instance : HasF Try.prog 61 := ⟨by kernel_rfl⟩
instance : HasF Try.prog 62 := ⟨by kernel_rfl⟩
instance : HasF Try.prog 63 := ⟨by kernel_rfl⟩
instance : HasF Try.prog 64 := ⟨by kernel_rfl⟩
instance : HasF Try.prog 65 := ⟨by kernel_rfl⟩
instance : HasF Try.prog 66 := ⟨by kernel_rfl⟩
instance : HasF Try.prog 67 := ⟨by kernel_rfl⟩
instance : HasF Try.prog 68 := ⟨by kernel_rfl⟩
instance : HasF Try.prog 69 := ⟨by kernel_rfl⟩
instance : HasF Try.prog 70 := ⟨by kernel_rfl⟩
instance : HasF Try.prog 71 := ⟨by kernel_rfl⟩
instance : HasF Try.prog 72 := ⟨by kernel_rfl⟩
instance : HasF Try.prog 73 := ⟨by kernel_rfl⟩
instance : HasF Try.prog 74 := ⟨by kernel_rfl⟩
instance : HasF Try.prog 75 := ⟨by kernel_rfl⟩
instance : HasF Try.prog 76 := ⟨by kernel_rfl⟩
instance : HasF Try.prog 77 := ⟨by kernel_rfl⟩
instance : HasF Try.prog 78 := ⟨by kernel_rfl⟩
instance : HasF Try.prog 79 := ⟨by kernel_rfl⟩
instance : HasF Try.prog 80 := ⟨by kernel_rfl⟩
instance : HasF Try.prog 81 := ⟨by kernel_rfl⟩
instance : HasF Try.prog 82 := ⟨by kernel_rfl⟩
instance : HasF Try.prog 83 := ⟨by kernel_rfl⟩
instance : HasF Try.prog 102 := ⟨by kernel_rfl⟩
instance : HasF Try.prog 103 := ⟨by kernel_rfl⟩
instance : HasF Try.prog 104 := ⟨by kernel_rfl⟩
instance : HasF Try.prog 105 := ⟨by kernel_rfl⟩
instance : HasF Try.prog 106 := ⟨by kernel_rfl⟩
instance : HasF Try.prog 107 := ⟨by kernel_rfl⟩
instance : HasF Try.prog 108 := ⟨by kernel_rfl⟩
instance : HasF Try.prog 109 := ⟨by kernel_rfl⟩
instance : HasF Try.prog 110 := ⟨by kernel_rfl⟩
instance : HasF Try.prog 111 := ⟨by kernel_rfl⟩
instance : HasF Try.prog 112 := ⟨by kernel_rfl⟩
instance : HasF Try.prog 113 := ⟨by kernel_rfl⟩
structure S_api_Part where
  f_Ring : Int
  f_Half : Bool
  f_Fuel : Int
  f_Refs : Int
  f_Futures : Int
  f_Inputs : Value
  f_Picks : Value
  f_Seed : Int
instance : Dfl S_api_Part := ⟨⟨Dfl.d, Dfl.d, Dfl.d, Dfl.d, Dfl.d, Dfl.d, Dfl.d, Dfl.d⟩⟩
def e_api_Part : Enc S_api_Part := ⟨8, fun x => [.int .i64 x.f_Ring, .bool x.f_Half, .int .i64 x.f_Fuel, .int .i64 x.f_Refs, .int .i64 x.f_Futures, x.f_Inputs, x.f_Picks, .int .u64 x.f_Seed], fun _ => rfl⟩
instance : EncS e_api_Part 8 := ⟨rfl⟩
instance (x : S_api_Part) : EncC e_api_Part x [.int .i64 x.f_Ring, .bool x.f_Half, .int .i64 x.f_Fuel, .int .i64 x.f_Refs, .int .i64 x.f_Futures, x.f_Inputs, x.f_Picks, .int .u64 x.f_Seed] := ⟨rfl⟩
instance (yf_Ring : Int) (yf_Half : Bool) (yf_Fuel : Int) (yf_Refs : Int) (yf_Futures : Int) (yf_Inputs : Value) (yf_Picks : Value) (yf_Seed : Int) : EncI e_api_Part (.agg #[.int .i64 yf_Ring, .bool yf_Half, .int .i64 yf_Fuel, .int .i64 yf_Refs, .int .i64 yf_Futures, yf_Inputs, yf_Picks, .int .u64 yf_Seed]) ⟨yf_Ring, yf_Half, yf_Fuel, yf_Refs, yf_Futures, yf_Inputs, yf_Picks, yf_Seed⟩ := ⟨rfl⟩
instance : TyE Try.prog 26 e_api_Part := ⟨(inferInstance : TySz Try.prog 26 8)⟩
instance (H : List HProp) (x : S_api_Part) (a : Int) : EncU H e_api_Part x 0 (.int .i64 a) { x with f_Ring := a } := ⟨fun _ _ => ⟨_, rfl, rfl⟩⟩
instance (H : List HProp) (x : S_api_Part) (a : Bool) : EncU H e_api_Part x 1 (.bool a) { x with f_Half := a } := ⟨fun _ _ => ⟨_, rfl, rfl⟩⟩
instance (H : List HProp) (x : S_api_Part) (a : Int) : EncU H e_api_Part x 2 (.int .i64 a) { x with f_Fuel := a } := ⟨fun _ _ => ⟨_, rfl, rfl⟩⟩
instance (H : List HProp) (x : S_api_Part) (a : Int) : EncU H e_api_Part x 3 (.int .i64 a) { x with f_Refs := a } := ⟨fun _ _ => ⟨_, rfl, rfl⟩⟩
instance (H : List HProp) (x : S_api_Part) (a : Int) : EncU H e_api_Part x 4 (.int .i64 a) { x with f_Futures := a } := ⟨fun _ _ => ⟨_, rfl, rfl⟩⟩
instance (priority := low) (H : List HProp) (x : S_api_Part) (a : Value) [h : Fl1 H a] : EncU H e_api_Part x 5 a { x with f_Inputs := a } := ⟨fun w hw => ⟨[a], (h.f w hw).2, rfl⟩⟩
instance (priority := low) (H : List HProp) (x : S_api_Part) (a : Value) [h : Fl1 H a] : EncU H e_api_Part x 6 a { x with f_Picks := a } := ⟨fun w hw => ⟨[a], (h.f w hw).2, rfl⟩⟩
instance (H : List HProp) (x : S_api_Part) (a : Int) : EncU H e_api_Part x 7 (.int .u64 a) { x with f_Seed := a } := ⟨fun _ _ => ⟨_, rfl, rfl⟩⟩
structure S_api_Task where
  f_Id : Int
  f_Func : Int
  f_Pc : Int
  f_Stack : Value
  f_Vars0 : Int
  f_Vars1 : Int
  f_Vars2 : Int
  f_Vars3 : Int
  f_Label : Int
  f_Clear : Int
  f_Privs : Int
  f_Worker : Int
instance : Dfl S_api_Task := ⟨⟨Dfl.d, Dfl.d, Dfl.d, Dfl.d, Dfl.d, Dfl.d, Dfl.d, Dfl.d, Dfl.d, Dfl.d, Dfl.d, Dfl.d⟩⟩
def e_api_Task : Enc S_api_Task := ⟨12, fun x => [.int .i32 x.f_Id, .int .i64 x.f_Func, .int .i64 x.f_Pc, x.f_Stack, .int .i32 x.f_Vars0, .int .i32 x.f_Vars1, .int .i32 x.f_Vars2, .int .i32 x.f_Vars3, .int .i64 x.f_Label, .int .i64 x.f_Clear, .int .u32 x.f_Privs, .int .i64 x.f_Worker], fun _ => rfl⟩
instance : EncS e_api_Task 12 := ⟨rfl⟩
instance (x : S_api_Task) : EncC e_api_Task x [.int .i32 x.f_Id, .int .i64 x.f_Func, .int .i64 x.f_Pc, x.f_Stack, .int .i32 x.f_Vars0, .int .i32 x.f_Vars1, .int .i32 x.f_Vars2, .int .i32 x.f_Vars3, .int .i64 x.f_Label, .int .i64 x.f_Clear, .int .u32 x.f_Privs, .int .i64 x.f_Worker] := ⟨rfl⟩
instance (yf_Id : Int) (yf_Func : Int) (yf_Pc : Int) (yf_Stack : Value) (yf_Vars0 : Int) (yf_Vars1 : Int) (yf_Vars2 : Int) (yf_Vars3 : Int) (yf_Label : Int) (yf_Clear : Int) (yf_Privs : Int) (yf_Worker : Int) : EncI e_api_Task (.agg #[.int .i32 yf_Id, .int .i64 yf_Func, .int .i64 yf_Pc, yf_Stack, .int .i32 yf_Vars0, .int .i32 yf_Vars1, .int .i32 yf_Vars2, .int .i32 yf_Vars3, .int .i64 yf_Label, .int .i64 yf_Clear, .int .u32 yf_Privs, .int .i64 yf_Worker]) ⟨yf_Id, yf_Func, yf_Pc, yf_Stack, yf_Vars0, yf_Vars1, yf_Vars2, yf_Vars3, yf_Label, yf_Clear, yf_Privs, yf_Worker⟩ := ⟨rfl⟩
instance : TyE Try.prog 37 e_api_Task := ⟨(inferInstance : TySz Try.prog 37 12)⟩
instance (H : List HProp) (x : S_api_Task) (a : Int) : EncU H e_api_Task x 0 (.int .i32 a) { x with f_Id := a } := ⟨fun _ _ => ⟨_, rfl, rfl⟩⟩
instance (H : List HProp) (x : S_api_Task) (a : Int) : EncU H e_api_Task x 1 (.int .i64 a) { x with f_Func := a } := ⟨fun _ _ => ⟨_, rfl, rfl⟩⟩
instance (H : List HProp) (x : S_api_Task) (a : Int) : EncU H e_api_Task x 2 (.int .i64 a) { x with f_Pc := a } := ⟨fun _ _ => ⟨_, rfl, rfl⟩⟩
instance (priority := low) (H : List HProp) (x : S_api_Task) (a : Value) [h : Fl1 H a] : EncU H e_api_Task x 3 a { x with f_Stack := a } := ⟨fun w hw => ⟨[a], (h.f w hw).2, rfl⟩⟩
instance (H : List HProp) (x : S_api_Task) (a : Int) : EncU H e_api_Task x 4 (.int .i32 a) { x with f_Vars0 := a } := ⟨fun _ _ => ⟨_, rfl, rfl⟩⟩
instance (H : List HProp) (x : S_api_Task) (a : Int) : EncU H e_api_Task x 5 (.int .i32 a) { x with f_Vars1 := a } := ⟨fun _ _ => ⟨_, rfl, rfl⟩⟩
instance (H : List HProp) (x : S_api_Task) (a : Int) : EncU H e_api_Task x 6 (.int .i32 a) { x with f_Vars2 := a } := ⟨fun _ _ => ⟨_, rfl, rfl⟩⟩
instance (H : List HProp) (x : S_api_Task) (a : Int) : EncU H e_api_Task x 7 (.int .i32 a) { x with f_Vars3 := a } := ⟨fun _ _ => ⟨_, rfl, rfl⟩⟩
instance (H : List HProp) (x : S_api_Task) (a : Int) : EncU H e_api_Task x 8 (.int .i64 a) { x with f_Label := a } := ⟨fun _ _ => ⟨_, rfl, rfl⟩⟩
instance (H : List HProp) (x : S_api_Task) (a : Int) : EncU H e_api_Task x 9 (.int .i64 a) { x with f_Clear := a } := ⟨fun _ _ => ⟨_, rfl, rfl⟩⟩
instance (H : List HProp) (x : S_api_Task) (a : Int) : EncU H e_api_Task x 10 (.int .u32 a) { x with f_Privs := a } := ⟨fun _ _ => ⟨_, rfl, rfl⟩⟩
instance (H : List HProp) (x : S_api_Task) (a : Int) : EncU H e_api_Task x 11 (.int .i64 a) { x with f_Worker := a } := ⟨fun _ _ => ⟨_, rfl, rfl⟩⟩
structure S_api_Event where
  f_Round : Int
  f_Label : Int
  f_Kind : Int
  f_Worker : Int
  f_Task : Int
  f_A : Int
  f_B : Int
  deriving DecidableEq
instance : Dfl S_api_Event := ⟨⟨Dfl.d, Dfl.d, Dfl.d, Dfl.d, Dfl.d, Dfl.d, Dfl.d⟩⟩
def e_api_Event : Enc S_api_Event := ⟨7, fun x => [.int .i64 x.f_Round, .int .i64 x.f_Label, .int .i64 x.f_Kind, .int .i64 x.f_Worker, .int .i32 x.f_Task, .int .i32 x.f_A, .int .i32 x.f_B], fun _ => rfl⟩
instance : EncS e_api_Event 7 := ⟨rfl⟩
instance (x : S_api_Event) : EncC e_api_Event x [.int .i64 x.f_Round, .int .i64 x.f_Label, .int .i64 x.f_Kind, .int .i64 x.f_Worker, .int .i32 x.f_Task, .int .i32 x.f_A, .int .i32 x.f_B] := ⟨rfl⟩
instance (yf_Round : Int) (yf_Label : Int) (yf_Kind : Int) (yf_Worker : Int) (yf_Task : Int) (yf_A : Int) (yf_B : Int) : EncI e_api_Event (.agg #[.int .i64 yf_Round, .int .i64 yf_Label, .int .i64 yf_Kind, .int .i64 yf_Worker, .int .i32 yf_Task, .int .i32 yf_A, .int .i32 yf_B]) ⟨yf_Round, yf_Label, yf_Kind, yf_Worker, yf_Task, yf_A, yf_B⟩ := ⟨rfl⟩
instance : TyE Try.prog 43 e_api_Event := ⟨(inferInstance : TySz Try.prog 43 7)⟩
instance (H : List HProp) (x : S_api_Event) (a : Int) : EncU H e_api_Event x 0 (.int .i64 a) { x with f_Round := a } := ⟨fun _ _ => ⟨_, rfl, rfl⟩⟩
instance (H : List HProp) (x : S_api_Event) (a : Int) : EncU H e_api_Event x 1 (.int .i64 a) { x with f_Label := a } := ⟨fun _ _ => ⟨_, rfl, rfl⟩⟩
instance (H : List HProp) (x : S_api_Event) (a : Int) : EncU H e_api_Event x 2 (.int .i64 a) { x with f_Kind := a } := ⟨fun _ _ => ⟨_, rfl, rfl⟩⟩
instance (H : List HProp) (x : S_api_Event) (a : Int) : EncU H e_api_Event x 3 (.int .i64 a) { x with f_Worker := a } := ⟨fun _ _ => ⟨_, rfl, rfl⟩⟩
instance (H : List HProp) (x : S_api_Event) (a : Int) : EncU H e_api_Event x 4 (.int .i32 a) { x with f_Task := a } := ⟨fun _ _ => ⟨_, rfl, rfl⟩⟩
instance (H : List HProp) (x : S_api_Event) (a : Int) : EncU H e_api_Event x 5 (.int .i32 a) { x with f_A := a } := ⟨fun _ _ => ⟨_, rfl, rfl⟩⟩
instance (H : List HProp) (x : S_api_Event) (a : Int) : EncU H e_api_Event x 6 (.int .i32 a) { x with f_B := a } := ⟨fun _ _ => ⟨_, rfl, rfl⟩⟩
structure S_deck_Deck where
  f_label : Int
  f_half : Bool
  f_fuel : Int
  f_hands : Value
  f_come : Value
  f_wait : Value
  f_pick : Value
instance : Dfl S_deck_Deck := ⟨⟨Dfl.d, Dfl.d, Dfl.d, Dfl.d, Dfl.d, Dfl.d, Dfl.d⟩⟩
def e_deck_Deck : Enc S_deck_Deck := ⟨7, fun x => [.int .i64 x.f_label, .bool x.f_half, .int .i64 x.f_fuel, x.f_hands, x.f_come, x.f_wait, x.f_pick], fun _ => rfl⟩
instance : EncS e_deck_Deck 7 := ⟨rfl⟩
instance (x : S_deck_Deck) : EncC e_deck_Deck x [.int .i64 x.f_label, .bool x.f_half, .int .i64 x.f_fuel, x.f_hands, x.f_come, x.f_wait, x.f_pick] := ⟨rfl⟩
instance (yf_label : Int) (yf_half : Bool) (yf_fuel : Int) (yf_hands : Value) (yf_come : Value) (yf_wait : Value) (yf_pick : Value) : EncI e_deck_Deck (.agg #[.int .i64 yf_label, .bool yf_half, .int .i64 yf_fuel, yf_hands, yf_come, yf_wait, yf_pick]) ⟨yf_label, yf_half, yf_fuel, yf_hands, yf_come, yf_wait, yf_pick⟩ := ⟨rfl⟩
instance : TyE Try.prog 78 e_deck_Deck := ⟨(inferInstance : TySz Try.prog 78 7)⟩
instance (H : List HProp) (x : S_deck_Deck) (a : Int) : EncU H e_deck_Deck x 0 (.int .i64 a) { x with f_label := a } := ⟨fun _ _ => ⟨_, rfl, rfl⟩⟩
instance (H : List HProp) (x : S_deck_Deck) (a : Bool) : EncU H e_deck_Deck x 1 (.bool a) { x with f_half := a } := ⟨fun _ _ => ⟨_, rfl, rfl⟩⟩
instance (H : List HProp) (x : S_deck_Deck) (a : Int) : EncU H e_deck_Deck x 2 (.int .i64 a) { x with f_fuel := a } := ⟨fun _ _ => ⟨_, rfl, rfl⟩⟩
instance (priority := low) (H : List HProp) (x : S_deck_Deck) (a : Value) [h : Fl1 H a] : EncU H e_deck_Deck x 3 a { x with f_hands := a } := ⟨fun w hw => ⟨[a], (h.f w hw).2, rfl⟩⟩
instance (priority := low) (H : List HProp) (x : S_deck_Deck) (a : Value) [h : Fl1 H a] : EncU H e_deck_Deck x 4 a { x with f_come := a } := ⟨fun w hw => ⟨[a], (h.f w hw).2, rfl⟩⟩
instance (priority := low) (H : List HProp) (x : S_deck_Deck) (a : Value) [h : Fl1 H a] : EncU H e_deck_Deck x 5 a { x with f_wait := a } := ⟨fun w hw => ⟨[a], (h.f w hw).2, rfl⟩⟩
instance (priority := low) (H : List HProp) (x : S_deck_Deck) (a : Value) [h : Fl1 H a] : EncU H e_deck_Deck x 6 a { x with f_pick := a } := ⟨fun w hw => ⟨[a], (h.f w hw).2, rfl⟩⟩
structure S_deck_hand where
  f_Ring : Value
  f_held : S_api_Task
  f_full : Bool
instance : Dfl S_deck_hand := ⟨⟨Dfl.d, Dfl.d, Dfl.d⟩⟩
def e_deck_hand : Enc S_deck_hand := ⟨14, fun x => [x.f_Ring, .int .i32 x.f_held.f_Id, .int .i64 x.f_held.f_Func, .int .i64 x.f_held.f_Pc, x.f_held.f_Stack, .int .i32 x.f_held.f_Vars0, .int .i32 x.f_held.f_Vars1, .int .i32 x.f_held.f_Vars2, .int .i32 x.f_held.f_Vars3, .int .i64 x.f_held.f_Label, .int .i64 x.f_held.f_Clear, .int .u32 x.f_held.f_Privs, .int .i64 x.f_held.f_Worker, .bool x.f_full], fun _ => rfl⟩
instance : EncS e_deck_hand 14 := ⟨rfl⟩
instance (x : S_deck_hand) : EncC e_deck_hand x [x.f_Ring, .int .i32 x.f_held.f_Id, .int .i64 x.f_held.f_Func, .int .i64 x.f_held.f_Pc, x.f_held.f_Stack, .int .i32 x.f_held.f_Vars0, .int .i32 x.f_held.f_Vars1, .int .i32 x.f_held.f_Vars2, .int .i32 x.f_held.f_Vars3, .int .i64 x.f_held.f_Label, .int .i64 x.f_held.f_Clear, .int .u32 x.f_held.f_Privs, .int .i64 x.f_held.f_Worker, .bool x.f_full] := ⟨rfl⟩
instance (yf_Ring : Value) (yf_held_f_Id : Int) (yf_held_f_Func : Int) (yf_held_f_Pc : Int) (yf_held_f_Stack : Value) (yf_held_f_Vars0 : Int) (yf_held_f_Vars1 : Int) (yf_held_f_Vars2 : Int) (yf_held_f_Vars3 : Int) (yf_held_f_Label : Int) (yf_held_f_Clear : Int) (yf_held_f_Privs : Int) (yf_held_f_Worker : Int) (yf_full : Bool) : EncI e_deck_hand (.agg #[yf_Ring, .int .i32 yf_held_f_Id, .int .i64 yf_held_f_Func, .int .i64 yf_held_f_Pc, yf_held_f_Stack, .int .i32 yf_held_f_Vars0, .int .i32 yf_held_f_Vars1, .int .i32 yf_held_f_Vars2, .int .i32 yf_held_f_Vars3, .int .i64 yf_held_f_Label, .int .i64 yf_held_f_Clear, .int .u32 yf_held_f_Privs, .int .i64 yf_held_f_Worker, .bool yf_full]) ⟨yf_Ring, ⟨yf_held_f_Id, yf_held_f_Func, yf_held_f_Pc, yf_held_f_Stack, yf_held_f_Vars0, yf_held_f_Vars1, yf_held_f_Vars2, yf_held_f_Vars3, yf_held_f_Label, yf_held_f_Clear, yf_held_f_Privs, yf_held_f_Worker⟩, yf_full⟩ := ⟨rfl⟩
instance : TyE Try.prog 83 e_deck_hand := ⟨(inferInstance : TySz Try.prog 83 14)⟩
instance (priority := low) (H : List HProp) (x : S_deck_hand) (a : Value) [h : Fl1 H a] : EncU H e_deck_hand x 0 a { x with f_Ring := a } := ⟨fun w hw => ⟨[a], (h.f w hw).2, rfl⟩⟩
instance (H : List HProp) (x : S_deck_hand) (a : Bool) : EncU H e_deck_hand x 13 (.bool a) { x with f_full := a } := ⟨fun _ _ => ⟨_, rfl, rfl⟩⟩
structure S_future_Futures where
  f_l : Value
  f_quotas : Value
instance : Dfl S_future_Futures := ⟨⟨Dfl.d, Dfl.d⟩⟩
def e_future_Futures : Enc S_future_Futures := ⟨2, fun x => [x.f_l, x.f_quotas], fun _ => rfl⟩
instance : EncS e_future_Futures 2 := ⟨rfl⟩
instance (x : S_future_Futures) : EncC e_future_Futures x [x.f_l, x.f_quotas] := ⟨rfl⟩
instance (yf_l : Value) (yf_quotas : Value) : EncI e_future_Futures (.agg #[yf_l, yf_quotas]) ⟨yf_l, yf_quotas⟩ := ⟨rfl⟩
instance : TyE Try.prog 93 e_future_Futures := ⟨(inferInstance : TySz Try.prog 93 2)⟩
instance (priority := low) (H : List HProp) (x : S_future_Futures) (a : Value) [h : Fl1 H a] : EncU H e_future_Futures x 0 a { x with f_l := a } := ⟨fun w hw => ⟨[a], (h.f w hw).2, rfl⟩⟩
instance (priority := low) (H : List HProp) (x : S_future_Futures) (a : Value) [h : Fl1 H a] : EncU H e_future_Futures x 1 a { x with f_quotas := a } := ⟨fun w hw => ⟨[a], (h.f w hw).2, rfl⟩⟩
structure S_api_Future where
  f_Label : Int
  f_State : Int
  f_Value : Int
  f_Code : Int
  deriving DecidableEq
instance : Dfl S_api_Future := ⟨⟨Dfl.d, Dfl.d, Dfl.d, Dfl.d⟩⟩
def e_api_Future : Enc S_api_Future := ⟨4, fun x => [.int .i64 x.f_Label, .int .i64 x.f_State, .int .i32 x.f_Value, .int .i64 x.f_Code], fun _ => rfl⟩
instance : EncS e_api_Future 4 := ⟨rfl⟩
instance (x : S_api_Future) : EncC e_api_Future x [.int .i64 x.f_Label, .int .i64 x.f_State, .int .i32 x.f_Value, .int .i64 x.f_Code] := ⟨rfl⟩
instance (yf_Label : Int) (yf_State : Int) (yf_Value : Int) (yf_Code : Int) : EncI e_api_Future (.agg #[.int .i64 yf_Label, .int .i64 yf_State, .int .i32 yf_Value, .int .i64 yf_Code]) ⟨yf_Label, yf_State, yf_Value, yf_Code⟩ := ⟨rfl⟩
instance : TyE Try.prog 96 e_api_Future := ⟨(inferInstance : TySz Try.prog 96 4)⟩
instance (H : List HProp) (x : S_api_Future) (a : Int) : EncU H e_api_Future x 0 (.int .i64 a) { x with f_Label := a } := ⟨fun _ _ => ⟨_, rfl, rfl⟩⟩
instance (H : List HProp) (x : S_api_Future) (a : Int) : EncU H e_api_Future x 1 (.int .i64 a) { x with f_State := a } := ⟨fun _ _ => ⟨_, rfl, rfl⟩⟩
instance (H : List HProp) (x : S_api_Future) (a : Int) : EncU H e_api_Future x 2 (.int .i32 a) { x with f_Value := a } := ⟨fun _ _ => ⟨_, rfl, rfl⟩⟩
instance (H : List HProp) (x : S_api_Future) (a : Int) : EncU H e_api_Future x 3 (.int .i64 a) { x with f_Code := a } := ⟨fun _ _ => ⟨_, rfl, rfl⟩⟩
structure S_future_done where
  f_state : Int
  f_v : Int
  f_code : Int
  deriving DecidableEq
instance : Dfl S_future_done := ⟨⟨Dfl.d, Dfl.d, Dfl.d⟩⟩
def e_future_done : Enc S_future_done := ⟨3, fun x => [.int .i64 x.f_state, .int .i32 x.f_v, .int .i64 x.f_code], fun _ => rfl⟩
instance : EncS e_future_done 3 := ⟨rfl⟩
instance (x : S_future_done) : EncC e_future_done x [.int .i64 x.f_state, .int .i32 x.f_v, .int .i64 x.f_code] := ⟨rfl⟩
instance (yf_state : Int) (yf_v : Int) (yf_code : Int) : EncI e_future_done (.agg #[.int .i64 yf_state, .int .i32 yf_v, .int .i64 yf_code]) ⟨yf_state, yf_v, yf_code⟩ := ⟨rfl⟩
instance : TyE Try.prog 103 e_future_done := ⟨(inferInstance : TySz Try.prog 103 3)⟩
instance (H : List HProp) (x : S_future_done) (a : Int) : EncU H e_future_done x 0 (.int .i64 a) { x with f_state := a } := ⟨fun _ _ => ⟨_, rfl, rfl⟩⟩
instance (H : List HProp) (x : S_future_done) (a : Int) : EncU H e_future_done x 1 (.int .i32 a) { x with f_v := a } := ⟨fun _ _ => ⟨_, rfl, rfl⟩⟩
instance (H : List HProp) (x : S_future_done) (a : Int) : EncU H e_future_done x 2 (.int .i64 a) { x with f_code := a } := ⟨fun _ _ => ⟨_, rfl, rfl⟩⟩
structure S_queue_Entry where
  f_Round : Int
  f_Task : S_api_Task
instance : Dfl S_queue_Entry := ⟨⟨Dfl.d, Dfl.d⟩⟩
def e_queue_Entry : Enc S_queue_Entry := ⟨13, fun x => [.int .i64 x.f_Round, .int .i32 x.f_Task.f_Id, .int .i64 x.f_Task.f_Func, .int .i64 x.f_Task.f_Pc, x.f_Task.f_Stack, .int .i32 x.f_Task.f_Vars0, .int .i32 x.f_Task.f_Vars1, .int .i32 x.f_Task.f_Vars2, .int .i32 x.f_Task.f_Vars3, .int .i64 x.f_Task.f_Label, .int .i64 x.f_Task.f_Clear, .int .u32 x.f_Task.f_Privs, .int .i64 x.f_Task.f_Worker], fun _ => rfl⟩
instance : EncS e_queue_Entry 13 := ⟨rfl⟩
instance (x : S_queue_Entry) : EncC e_queue_Entry x [.int .i64 x.f_Round, .int .i32 x.f_Task.f_Id, .int .i64 x.f_Task.f_Func, .int .i64 x.f_Task.f_Pc, x.f_Task.f_Stack, .int .i32 x.f_Task.f_Vars0, .int .i32 x.f_Task.f_Vars1, .int .i32 x.f_Task.f_Vars2, .int .i32 x.f_Task.f_Vars3, .int .i64 x.f_Task.f_Label, .int .i64 x.f_Task.f_Clear, .int .u32 x.f_Task.f_Privs, .int .i64 x.f_Task.f_Worker] := ⟨rfl⟩
instance (yf_Round : Int) (yf_Task_f_Id : Int) (yf_Task_f_Func : Int) (yf_Task_f_Pc : Int) (yf_Task_f_Stack : Value) (yf_Task_f_Vars0 : Int) (yf_Task_f_Vars1 : Int) (yf_Task_f_Vars2 : Int) (yf_Task_f_Vars3 : Int) (yf_Task_f_Label : Int) (yf_Task_f_Clear : Int) (yf_Task_f_Privs : Int) (yf_Task_f_Worker : Int) : EncI e_queue_Entry (.agg #[.int .i64 yf_Round, .int .i32 yf_Task_f_Id, .int .i64 yf_Task_f_Func, .int .i64 yf_Task_f_Pc, yf_Task_f_Stack, .int .i32 yf_Task_f_Vars0, .int .i32 yf_Task_f_Vars1, .int .i32 yf_Task_f_Vars2, .int .i32 yf_Task_f_Vars3, .int .i64 yf_Task_f_Label, .int .i64 yf_Task_f_Clear, .int .u32 yf_Task_f_Privs, .int .i64 yf_Task_f_Worker]) ⟨yf_Round, ⟨yf_Task_f_Id, yf_Task_f_Func, yf_Task_f_Pc, yf_Task_f_Stack, yf_Task_f_Vars0, yf_Task_f_Vars1, yf_Task_f_Vars2, yf_Task_f_Vars3, yf_Task_f_Label, yf_Task_f_Clear, yf_Task_f_Privs, yf_Task_f_Worker⟩⟩ := ⟨rfl⟩
instance : TyE Try.prog 105 e_queue_Entry := ⟨(inferInstance : TySz Try.prog 105 13)⟩
instance (H : List HProp) (x : S_queue_Entry) (a : Int) : EncU H e_queue_Entry x 0 (.int .i64 a) { x with f_Round := a } := ⟨fun _ _ => ⟨_, rfl, rfl⟩⟩
structure S_queue_Queue where
  f_l : Value
  f_n : Int
instance : Dfl S_queue_Queue := ⟨⟨Dfl.d, Dfl.d⟩⟩
def e_queue_Queue : Enc S_queue_Queue := ⟨2, fun x => [x.f_l, .int .i64 x.f_n], fun _ => rfl⟩
instance : EncS e_queue_Queue 2 := ⟨rfl⟩
instance (x : S_queue_Queue) : EncC e_queue_Queue x [x.f_l, .int .i64 x.f_n] := ⟨rfl⟩
instance (yf_l : Value) (yf_n : Int) : EncI e_queue_Queue (.agg #[yf_l, .int .i64 yf_n]) ⟨yf_l, yf_n⟩ := ⟨rfl⟩
instance : TyE Try.prog 111 e_queue_Queue := ⟨(inferInstance : TySz Try.prog 111 2)⟩
instance (priority := low) (H : List HProp) (x : S_queue_Queue) (a : Value) [h : Fl1 H a] : EncU H e_queue_Queue x 0 a { x with f_l := a } := ⟨fun w hw => ⟨[a], (h.f w hw).2, rfl⟩⟩
instance (H : List HProp) (x : S_queue_Queue) (a : Int) : EncU H e_queue_Queue x 1 (.int .i64 a) { x with f_n := a } := ⟨fun _ _ => ⟨_, rfl, rfl⟩⟩
structure S_park_Park where
  f_l : Value
instance : Dfl S_park_Park := ⟨⟨Dfl.d⟩⟩
def e_park_Park : Enc S_park_Park := ⟨1, fun x => [x.f_l], fun _ => rfl⟩
instance : EncS e_park_Park 1 := ⟨rfl⟩
instance (x : S_park_Park) : EncC e_park_Park x [x.f_l] := ⟨rfl⟩
instance (yf_l : Value) : EncI e_park_Park (.agg #[yf_l]) ⟨yf_l⟩ := ⟨rfl⟩
instance : TyE Try.prog 114 e_park_Park := ⟨(inferInstance : TySz Try.prog 114 1)⟩
instance (priority := low) (H : List HProp) (x : S_park_Park) (a : Value) [h : Fl1 H a] : EncU H e_park_Park x 0 a { x with f_l := a } := ⟨fun w hw => ⟨[a], (h.f w hw).2, rfl⟩⟩
structure S_picks_Picks where
  f_l : Value
  f_more : Value
instance : Dfl S_picks_Picks := ⟨⟨Dfl.d, Dfl.d⟩⟩
def e_picks_Picks : Enc S_picks_Picks := ⟨2, fun x => [x.f_l, x.f_more], fun _ => rfl⟩
instance : EncS e_picks_Picks 2 := ⟨rfl⟩
instance (x : S_picks_Picks) : EncC e_picks_Picks x [x.f_l, x.f_more] := ⟨rfl⟩
instance (yf_l : Value) (yf_more : Value) : EncI e_picks_Picks (.agg #[yf_l, yf_more]) ⟨yf_l, yf_more⟩ := ⟨rfl⟩
instance : TyE Try.prog 119 e_picks_Picks := ⟨(inferInstance : TySz Try.prog 119 2)⟩
instance (priority := low) (H : List HProp) (x : S_picks_Picks) (a : Value) [h : Fl1 H a] : EncU H e_picks_Picks x 0 a { x with f_l := a } := ⟨fun w hw => ⟨[a], (h.f w hw).2, rfl⟩⟩
instance (priority := low) (H : List HProp) (x : S_picks_Picks) (a : Value) [h : Fl1 H a] : EncU H e_picks_Picks x 1 a { x with f_more := a } := ⟨fun w hw => ⟨[a], (h.f w hw).2, rfl⟩⟩
structure S_ring_Ring where
  f_l : Value
  f_top : Int
  f_n : Int
instance : Dfl S_ring_Ring := ⟨⟨Dfl.d, Dfl.d, Dfl.d⟩⟩
def e_ring_Ring : Enc S_ring_Ring := ⟨3, fun x => [x.f_l, .int .i64 x.f_top, .int .i64 x.f_n], fun _ => rfl⟩
instance : EncS e_ring_Ring 3 := ⟨rfl⟩
instance (x : S_ring_Ring) : EncC e_ring_Ring x [x.f_l, .int .i64 x.f_top, .int .i64 x.f_n] := ⟨rfl⟩
instance (yf_l : Value) (yf_top : Int) (yf_n : Int) : EncI e_ring_Ring (.agg #[yf_l, .int .i64 yf_top, .int .i64 yf_n]) ⟨yf_l, yf_top, yf_n⟩ := ⟨rfl⟩
instance : TyE Try.prog 121 e_ring_Ring := ⟨(inferInstance : TySz Try.prog 121 3)⟩
instance (priority := low) (H : List HProp) (x : S_ring_Ring) (a : Value) [h : Fl1 H a] : EncU H e_ring_Ring x 0 a { x with f_l := a } := ⟨fun w hw => ⟨[a], (h.f w hw).2, rfl⟩⟩
instance (H : List HProp) (x : S_ring_Ring) (a : Int) : EncU H e_ring_Ring x 1 (.int .i64 a) { x with f_top := a } := ⟨fun _ _ => ⟨_, rfl, rfl⟩⟩
instance (H : List HProp) (x : S_ring_Ring) (a : Int) : EncU H e_ring_Ring x 2 (.int .i64 a) { x with f_n := a } := ⟨fun _ _ => ⟨_, rfl, rfl⟩⟩
structure S_park_Waiting where
  f_Task : S_api_Task
  f_Future : Int
instance : Dfl S_park_Waiting := ⟨⟨Dfl.d, Dfl.d⟩⟩
def e_park_Waiting : Enc S_park_Waiting := ⟨13, fun x => [.int .i32 x.f_Task.f_Id, .int .i64 x.f_Task.f_Func, .int .i64 x.f_Task.f_Pc, x.f_Task.f_Stack, .int .i32 x.f_Task.f_Vars0, .int .i32 x.f_Task.f_Vars1, .int .i32 x.f_Task.f_Vars2, .int .i32 x.f_Task.f_Vars3, .int .i64 x.f_Task.f_Label, .int .i64 x.f_Task.f_Clear, .int .u32 x.f_Task.f_Privs, .int .i64 x.f_Task.f_Worker, .int .i32 x.f_Future], fun _ => rfl⟩
instance : EncS e_park_Waiting 13 := ⟨rfl⟩
instance (x : S_park_Waiting) : EncC e_park_Waiting x [.int .i32 x.f_Task.f_Id, .int .i64 x.f_Task.f_Func, .int .i64 x.f_Task.f_Pc, x.f_Task.f_Stack, .int .i32 x.f_Task.f_Vars0, .int .i32 x.f_Task.f_Vars1, .int .i32 x.f_Task.f_Vars2, .int .i32 x.f_Task.f_Vars3, .int .i64 x.f_Task.f_Label, .int .i64 x.f_Task.f_Clear, .int .u32 x.f_Task.f_Privs, .int .i64 x.f_Task.f_Worker, .int .i32 x.f_Future] := ⟨rfl⟩
instance (yf_Task_f_Id : Int) (yf_Task_f_Func : Int) (yf_Task_f_Pc : Int) (yf_Task_f_Stack : Value) (yf_Task_f_Vars0 : Int) (yf_Task_f_Vars1 : Int) (yf_Task_f_Vars2 : Int) (yf_Task_f_Vars3 : Int) (yf_Task_f_Label : Int) (yf_Task_f_Clear : Int) (yf_Task_f_Privs : Int) (yf_Task_f_Worker : Int) (yf_Future : Int) : EncI e_park_Waiting (.agg #[.int .i32 yf_Task_f_Id, .int .i64 yf_Task_f_Func, .int .i64 yf_Task_f_Pc, yf_Task_f_Stack, .int .i32 yf_Task_f_Vars0, .int .i32 yf_Task_f_Vars1, .int .i32 yf_Task_f_Vars2, .int .i32 yf_Task_f_Vars3, .int .i64 yf_Task_f_Label, .int .i64 yf_Task_f_Clear, .int .u32 yf_Task_f_Privs, .int .i64 yf_Task_f_Worker, .int .i32 yf_Future]) ⟨⟨yf_Task_f_Id, yf_Task_f_Func, yf_Task_f_Pc, yf_Task_f_Stack, yf_Task_f_Vars0, yf_Task_f_Vars1, yf_Task_f_Vars2, yf_Task_f_Vars3, yf_Task_f_Label, yf_Task_f_Clear, yf_Task_f_Privs, yf_Task_f_Worker⟩, yf_Future⟩ := ⟨rfl⟩
instance : TyE Try.prog 127 e_park_Waiting := ⟨(inferInstance : TySz Try.prog 127 13)⟩
instance (H : List HProp) (x : S_park_Waiting) (a : Int) : EncU H e_park_Waiting x 12 (.int .i32 a) { x with f_Future := a } := ⟨fun _ _ => ⟨_, rfl, rfl⟩⟩
structure S_queue_item where
  f_Entry : S_queue_Entry
  f_seq : Int
instance : Dfl S_queue_item := ⟨⟨Dfl.d, Dfl.d⟩⟩
def e_queue_item : Enc S_queue_item := ⟨14, fun x => [.int .i64 x.f_Entry.f_Round, .int .i32 x.f_Entry.f_Task.f_Id, .int .i64 x.f_Entry.f_Task.f_Func, .int .i64 x.f_Entry.f_Task.f_Pc, x.f_Entry.f_Task.f_Stack, .int .i32 x.f_Entry.f_Task.f_Vars0, .int .i32 x.f_Entry.f_Task.f_Vars1, .int .i32 x.f_Entry.f_Task.f_Vars2, .int .i32 x.f_Entry.f_Task.f_Vars3, .int .i64 x.f_Entry.f_Task.f_Label, .int .i64 x.f_Entry.f_Task.f_Clear, .int .u32 x.f_Entry.f_Task.f_Privs, .int .i64 x.f_Entry.f_Task.f_Worker, .int .i64 x.f_seq], fun _ => rfl⟩
instance : EncS e_queue_item 14 := ⟨rfl⟩
instance (x : S_queue_item) : EncC e_queue_item x [.int .i64 x.f_Entry.f_Round, .int .i32 x.f_Entry.f_Task.f_Id, .int .i64 x.f_Entry.f_Task.f_Func, .int .i64 x.f_Entry.f_Task.f_Pc, x.f_Entry.f_Task.f_Stack, .int .i32 x.f_Entry.f_Task.f_Vars0, .int .i32 x.f_Entry.f_Task.f_Vars1, .int .i32 x.f_Entry.f_Task.f_Vars2, .int .i32 x.f_Entry.f_Task.f_Vars3, .int .i64 x.f_Entry.f_Task.f_Label, .int .i64 x.f_Entry.f_Task.f_Clear, .int .u32 x.f_Entry.f_Task.f_Privs, .int .i64 x.f_Entry.f_Task.f_Worker, .int .i64 x.f_seq] := ⟨rfl⟩
instance (yf_Entry_f_Round : Int) (yf_Entry_f_Task_f_Id : Int) (yf_Entry_f_Task_f_Func : Int) (yf_Entry_f_Task_f_Pc : Int) (yf_Entry_f_Task_f_Stack : Value) (yf_Entry_f_Task_f_Vars0 : Int) (yf_Entry_f_Task_f_Vars1 : Int) (yf_Entry_f_Task_f_Vars2 : Int) (yf_Entry_f_Task_f_Vars3 : Int) (yf_Entry_f_Task_f_Label : Int) (yf_Entry_f_Task_f_Clear : Int) (yf_Entry_f_Task_f_Privs : Int) (yf_Entry_f_Task_f_Worker : Int) (yf_seq : Int) : EncI e_queue_item (.agg #[.int .i64 yf_Entry_f_Round, .int .i32 yf_Entry_f_Task_f_Id, .int .i64 yf_Entry_f_Task_f_Func, .int .i64 yf_Entry_f_Task_f_Pc, yf_Entry_f_Task_f_Stack, .int .i32 yf_Entry_f_Task_f_Vars0, .int .i32 yf_Entry_f_Task_f_Vars1, .int .i32 yf_Entry_f_Task_f_Vars2, .int .i32 yf_Entry_f_Task_f_Vars3, .int .i64 yf_Entry_f_Task_f_Label, .int .i64 yf_Entry_f_Task_f_Clear, .int .u32 yf_Entry_f_Task_f_Privs, .int .i64 yf_Entry_f_Task_f_Worker, .int .i64 yf_seq]) ⟨⟨yf_Entry_f_Round, ⟨yf_Entry_f_Task_f_Id, yf_Entry_f_Task_f_Func, yf_Entry_f_Task_f_Pc, yf_Entry_f_Task_f_Stack, yf_Entry_f_Task_f_Vars0, yf_Entry_f_Task_f_Vars1, yf_Entry_f_Task_f_Vars2, yf_Entry_f_Task_f_Vars3, yf_Entry_f_Task_f_Label, yf_Entry_f_Task_f_Clear, yf_Entry_f_Task_f_Privs, yf_Entry_f_Task_f_Worker⟩⟩, yf_seq⟩ := ⟨rfl⟩
instance : TyE Try.prog 136 e_queue_item := ⟨(inferInstance : TySz Try.prog 136 14)⟩
instance (H : List HProp) (x : S_queue_item) (a : Int) : EncU H e_queue_item x 13 (.int .i64 a) { x with f_seq := a } := ⟨fun _ _ => ⟨_, rfl, rfl⟩⟩
structure S_rng_Rng where
  f_s : Int
  deriving DecidableEq
instance : Dfl S_rng_Rng := ⟨⟨Dfl.d⟩⟩
def e_rng_Rng : Enc S_rng_Rng := ⟨1, fun x => [.int .u64 x.f_s], fun _ => rfl⟩
instance : EncS e_rng_Rng 1 := ⟨rfl⟩
instance (x : S_rng_Rng) : EncC e_rng_Rng x [.int .u64 x.f_s] := ⟨rfl⟩
instance (yf_s : Int) : EncI e_rng_Rng (.agg #[.int .u64 yf_s]) ⟨yf_s⟩ := ⟨rfl⟩
instance : TyE Try.prog 139 e_rng_Rng := ⟨(inferInstance : TySz Try.prog 139 1)⟩
instance (H : List HProp) (x : S_rng_Rng) (a : Int) : EncU H e_rng_Rng x 0 (.int .u64 a) { x with f_s := a } := ⟨fun _ _ => ⟨_, rfl, rfl⟩⟩
instance : TyE Try.prog 1 eVal := ⟨(inferInstance : TySz Try.prog 1 1)⟩
instance : TyE Try.prog 2 (eInt .i64) := ⟨(inferInstance : TySz Try.prog 2 1)⟩
instance : TyE Try.prog 3 (eInt .i64) := ⟨(inferInstance : TySz Try.prog 3 1)⟩
instance : TyE Try.prog 4 eBool := ⟨(inferInstance : TySz Try.prog 4 1)⟩
instance : TyE Try.prog 5 (eInt .u8) := ⟨(inferInstance : TySz Try.prog 5 1)⟩
instance : TyE Try.prog 12 (eInt .u64) := ⟨(inferInstance : TySz Try.prog 12 1)⟩
instance : TyE Try.prog 21 (eInt .i32) := ⟨(inferInstance : TySz Try.prog 21 1)⟩
instance : TyE Try.prog 22 eVal := ⟨(inferInstance : TySz Try.prog 22 1)⟩
instance : TyE Try.prog 23 eVal := ⟨(inferInstance : TySz Try.prog 23 1)⟩
instance : TyE Try.prog 24 (eInt .u64) := ⟨(inferInstance : TySz Try.prog 24 1)⟩
instance : TyE Try.prog 27 eVal := ⟨(inferInstance : TySz Try.prog 27 1)⟩
instance : TyE Try.prog 28 eVal := ⟨(inferInstance : TySz Try.prog 28 1)⟩
instance : TyE Try.prog 29 eVal := ⟨(inferInstance : TySz Try.prog 29 1)⟩
instance : TyE Try.prog 30 eVal := ⟨(inferInstance : TySz Try.prog 30 1)⟩
instance : TyE Try.prog 31 ePtr := ⟨(inferInstance : TySz Try.prog 31 1)⟩
instance : TyE Try.prog 32 eVal := ⟨(inferInstance : TySz Try.prog 32 1)⟩
instance : TyE Try.prog 33 eVal := ⟨(inferInstance : TySz Try.prog 33 1)⟩
instance : TyE Try.prog 35 (eInt .u32) := ⟨(inferInstance : TySz Try.prog 35 1)⟩
instance : TyE Try.prog 38 eVal := ⟨(inferInstance : TySz Try.prog 38 1)⟩
instance : TyE Try.prog 40 eVal := ⟨(inferInstance : TySz Try.prog 40 1)⟩
instance : TyE Try.prog 41 eVal := ⟨(inferInstance : TySz Try.prog 41 1)⟩
instance : TyE Try.prog 44 eVal := ⟨(inferInstance : TySz Try.prog 44 1)⟩
instance : TyE Try.prog 45 eVal := ⟨(inferInstance : TySz Try.prog 45 1)⟩
instance : TyE Try.prog 47 eVal := ⟨(inferInstance : TySz Try.prog 47 1)⟩
instance : TyE Try.prog 48 eVal := ⟨(inferInstance : TySz Try.prog 48 1)⟩
instance : TyE Try.prog 49 eVal := ⟨(inferInstance : TySz Try.prog 49 1)⟩
instance : TyE Try.prog 50 eVal := ⟨(inferInstance : TySz Try.prog 50 1)⟩
instance : TyE Try.prog 51 ePtr := ⟨(inferInstance : TySz Try.prog 51 1)⟩
instance : TyE Try.prog 52 eVal := ⟨(inferInstance : TySz Try.prog 52 1)⟩
instance : TyE Try.prog 54 eVal := ⟨(inferInstance : TySz Try.prog 54 1)⟩
instance : TyE Try.prog 55 eVal := ⟨(inferInstance : TySz Try.prog 55 1)⟩
instance : TyE Try.prog 56 eVal := ⟨(inferInstance : TySz Try.prog 56 1)⟩
instance : TyE Try.prog 58 eVal := ⟨(inferInstance : TySz Try.prog 58 1)⟩
instance : TyE Try.prog 59 (eInt .u16) := ⟨(inferInstance : TySz Try.prog 59 1)⟩
instance : TyE Try.prog 60 eVal := ⟨(inferInstance : TySz Try.prog 60 1)⟩
instance : TyE Try.prog 61 (eInt .i64) := ⟨(inferInstance : TySz Try.prog 61 1)⟩
instance : TyE Try.prog 63 eVal := ⟨(inferInstance : TySz Try.prog 63 1)⟩
instance : TyE Try.prog 64 eVal := ⟨(inferInstance : TySz Try.prog 64 1)⟩
instance : TyE Try.prog 66 eVal := ⟨(inferInstance : TySz Try.prog 66 1)⟩
instance : TyE Try.prog 67 eVal := ⟨(inferInstance : TySz Try.prog 67 1)⟩
instance : TyE Try.prog 68 (eInt .u64) := ⟨(inferInstance : TySz Try.prog 68 1)⟩
instance : TyE Try.prog 69 eVal := ⟨(inferInstance : TySz Try.prog 69 1)⟩
instance : TyE Try.prog 70 ePtr := ⟨(inferInstance : TySz Try.prog 70 1)⟩
instance : TyE Try.prog 71 eVal := ⟨(inferInstance : TySz Try.prog 71 1)⟩
instance : TyE Try.prog 72 ePtr := ⟨(inferInstance : TySz Try.prog 72 1)⟩
instance : TyE Try.prog 73 eVal := ⟨(inferInstance : TySz Try.prog 73 1)⟩
instance : TyE Try.prog 74 ePtr := ⟨(inferInstance : TySz Try.prog 74 1)⟩
instance : TyE Try.prog 75 eVal := ⟨(inferInstance : TySz Try.prog 75 1)⟩
instance : TyE Try.prog 76 eVal := ⟨(inferInstance : TySz Try.prog 76 1)⟩
instance : TyE Try.prog 79 ePtr := ⟨(inferInstance : TySz Try.prog 79 1)⟩
instance : TyE Try.prog 80 ePtr := ⟨(inferInstance : TySz Try.prog 80 1)⟩
instance : TyE Try.prog 81 eVal := ⟨(inferInstance : TySz Try.prog 81 1)⟩
instance : TyE Try.prog 84 eVal := ⟨(inferInstance : TySz Try.prog 84 1)⟩
instance : TyE Try.prog 85 eVal := ⟨(inferInstance : TySz Try.prog 85 1)⟩
instance : TyE Try.prog 86 eVal := ⟨(inferInstance : TySz Try.prog 86 1)⟩
instance : TyE Try.prog 87 eVal := ⟨(inferInstance : TySz Try.prog 87 1)⟩
instance : TyE Try.prog 88 eVal := ⟨(inferInstance : TySz Try.prog 88 1)⟩
instance : TyE Try.prog 89 eVal := ⟨(inferInstance : TySz Try.prog 89 1)⟩
instance : TyE Try.prog 90 eVal := ⟨(inferInstance : TySz Try.prog 90 1)⟩
instance : TyE Try.prog 91 eVal := ⟨(inferInstance : TySz Try.prog 91 1)⟩
instance : TyE Try.prog 94 eVal := ⟨(inferInstance : TySz Try.prog 94 1)⟩
instance : TyE Try.prog 98 eVal := ⟨(inferInstance : TySz Try.prog 98 1)⟩
instance : TyE Try.prog 99 eVal := ⟨(inferInstance : TySz Try.prog 99 1)⟩
instance : TyE Try.prog 100 eVal := ⟨(inferInstance : TySz Try.prog 100 1)⟩
instance : TyE Try.prog 101 eVal := ⟨(inferInstance : TySz Try.prog 101 1)⟩
instance : TyE Try.prog 107 eVal := ⟨(inferInstance : TySz Try.prog 107 1)⟩
instance : TyE Try.prog 108 eVal := ⟨(inferInstance : TySz Try.prog 108 1)⟩
instance : TyE Try.prog 109 eVal := ⟨(inferInstance : TySz Try.prog 109 1)⟩
instance : TyE Try.prog 112 eVal := ⟨(inferInstance : TySz Try.prog 112 1)⟩
instance : TyE Try.prog 115 eVal := ⟨(inferInstance : TySz Try.prog 115 1)⟩
instance : TyE Try.prog 116 ePtr := ⟨(inferInstance : TySz Try.prog 116 1)⟩
instance : TyE Try.prog 117 eVal := ⟨(inferInstance : TySz Try.prog 117 1)⟩
instance : TyE Try.prog 122 ePtr := ⟨(inferInstance : TySz Try.prog 122 1)⟩
instance : TyE Try.prog 123 eVal := ⟨(inferInstance : TySz Try.prog 123 1)⟩
instance : TyE Try.prog 124 eVal := ⟨(inferInstance : TySz Try.prog 124 1)⟩
instance : TyE Try.prog 125 eVal := ⟨(inferInstance : TySz Try.prog 125 1)⟩
instance : TyE Try.prog 128 eVal := ⟨(inferInstance : TySz Try.prog 128 1)⟩
instance : TyE Try.prog 129 eVal := ⟨(inferInstance : TySz Try.prog 129 1)⟩
instance : TyE Try.prog 130 ePtr := ⟨(inferInstance : TySz Try.prog 130 1)⟩
instance : TyE Try.prog 131 eVal := ⟨(inferInstance : TySz Try.prog 131 1)⟩
instance : TyE Try.prog 132 eVal := ⟨(inferInstance : TySz Try.prog 132 1)⟩
instance : TyE Try.prog 133 ePtr := ⟨(inferInstance : TySz Try.prog 133 1)⟩
instance : TyE Try.prog 134 eVal := ⟨(inferInstance : TySz Try.prog 134 1)⟩
instance : TyE Try.prog 137 eVal := ⟨(inferInstance : TySz Try.prog 137 1)⟩
instance : TyE Try.prog 140 eVal := ⟨(inferInstance : TySz Try.prog 140 1)⟩
instance : TyE Try.prog 141 eVal := ⟨(inferInstance : TySz Try.prog 141 1)⟩
instance : TyE Try.prog 142 eVal := ⟨(inferInstance : TySz Try.prog 142 1)⟩
instance : TyE Try.prog 144 eVal := ⟨(inferInstance : TySz Try.prog 144 1)⟩
instance : TyE Try.prog 145 eVal := ⟨(inferInstance : TySz Try.prog 145 1)⟩
instance : TyE Try.prog 148 eVal := ⟨(inferInstance : TySz Try.prog 148 1)⟩
instance : TyE Try.prog 149 eVal := ⟨(inferInstance : TySz Try.prog 149 1)⟩
instance : TyE Try.prog 150 eVal := ⟨(inferInstance : TySz Try.prog 150 1)⟩
instance : TyE Try.prog 151 eVal := ⟨(inferInstance : TySz Try.prog 151 1)⟩
instance : TyE Try.prog 152 eVal := ⟨(inferInstance : TySz Try.prog 152 1)⟩
instance : TyE Try.prog 153 eVal := ⟨(inferInstance : TySz Try.prog 153 1)⟩
instance : TyE Try.prog 154 eVal := ⟨(inferInstance : TySz Try.prog 154 1)⟩
instance : TyE Try.prog 155 eVal := ⟨(inferInstance : TySz Try.prog 155 1)⟩
instance : TyE Try.prog 156 eVal := ⟨(inferInstance : TySz Try.prog 156 1)⟩
instance : TyE Try.prog 165 ePtr := ⟨(inferInstance : TySz Try.prog 165 1)⟩
instance : TyE Try.prog 170 eVal := ⟨(inferInstance : TySz Try.prog 170 1)⟩
instance : TyE Try.prog 171 eVal := ⟨(inferInstance : TySz Try.prog 171 1)⟩
instance : TyE Try.prog 172 eVal := ⟨(inferInstance : TySz Try.prog 172 1)⟩
instance : TyE Try.prog 173 eVal := ⟨(inferInstance : TySz Try.prog 173 1)⟩
instance : TyE Try.prog 174 eVal := ⟨(inferInstance : TySz Try.prog 174 1)⟩
instance : TyE Try.prog 175 eVal := ⟨(inferInstance : TySz Try.prog 175 1)⟩
structure S_A4_int32 where
  e0 : Int
  e1 : Int
  e2 : Int
  e3 : Int
  deriving DecidableEq
instance : Dfl S_A4_int32 := ⟨⟨Dfl.d, Dfl.d, Dfl.d, Dfl.d⟩⟩
def e_A4_int32 : Enc S_A4_int32 := ⟨4, fun x => [.int .i32 x.e0, .int .i32 x.e1, .int .i32 x.e2, .int .i32 x.e3], fun _ => rfl⟩
instance : EncS e_A4_int32 4 := ⟨rfl⟩
instance (x : S_A4_int32) : EncC e_A4_int32 x [.int .i32 x.e0, .int .i32 x.e1, .int .i32 x.e2, .int .i32 x.e3] := ⟨rfl⟩
instance (y0 : Int) (y1 : Int) (y2 : Int) (y3 : Int) : EncI e_A4_int32 (.agg #[.int .i32 y0, .int .i32 y1, .int .i32 y2, .int .i32 y3]) ⟨y0, y1, y2, y3⟩ := ⟨rfl⟩
instance : TyE Try.prog 34 e_A4_int32 := ⟨(inferInstance : TySz Try.prog 34 4)⟩
instance : EqG Try.prog 34 := ⟨by kernel_rfl, by kernel_rfl⟩
instance : EqT Try.prog 34 (kS e_A4_int32) 2 := ⟨fun d hd x y w => by
  obtain ⟨d, rfl⟩ : ∃ e, d = e + 1 := ⟨d - 1, by omega⟩
  refine (eqArray Try.underlying34 inferInstance (bs := [decide (x.e0 = y.e0), decide (x.e1 = y.e1), decide (x.e2 = y.e2), decide (x.e3 = y.e3)]) ?_).trans ?_
  · exact (EqAs.cons (t := 21) (V := (kI .i32)) (a := x.e0) (b := y.e0) (by omega) ((inferInstance : LiesL Try.prog 21 [.int .i32 x.e0, .int .i32 x.e1, .int .i32 x.e2, .int .i32 x.e3] 0 (.int .i32 x.e0)).lies) ((inferInstance : LiesL Try.prog 21 [.int .i32 y.e0, .int .i32 y.e1, .int .i32 y.e2, .int .i32 y.e3] 0 (.int .i32 y.e0)).lies) (EqAs.cons (t := 21) (V := (kI .i32)) (a := x.e1) (b := y.e1) (by omega) ((inferInstance : LiesL Try.prog 21 [.int .i32 x.e0, .int .i32 x.e1, .int .i32 x.e2, .int .i32 x.e3] 1 (.int .i32 x.e1)).lies) ((inferInstance : LiesL Try.prog 21 [.int .i32 y.e0, .int .i32 y.e1, .int .i32 y.e2, .int .i32 y.e3] 1 (.int .i32 y.e1)).lies) (EqAs.cons (t := 21) (V := (kI .i32)) (a := x.e2) (b := y.e2) (by omega) ((inferInstance : LiesL Try.prog 21 [.int .i32 x.e0, .int .i32 x.e1, .int .i32 x.e2, .int .i32 x.e3] 2 (.int .i32 x.e2)).lies) ((inferInstance : LiesL Try.prog 21 [.int .i32 y.e0, .int .i32 y.e1, .int .i32 y.e2, .int .i32 y.e3] 2 (.int .i32 y.e2)).lies) (EqAs.cons (t := 21) (V := (kI .i32)) (a := x.e3) (b := y.e3) (by omega) ((inferInstance : LiesL Try.prog 21 [.int .i32 x.e0, .int .i32 x.e1, .int .i32 x.e2, .int .i32 x.e3] 3 (.int .i32 x.e3)).lies) ((inferInstance : LiesL Try.prog 21 [.int .i32 y.e0, .int .i32 y.e1, .int .i32 y.e2, .int .i32 y.e3] 3 (.int .i32 y.e3)).lies) trivial))))
  · cases x; cases y; simp only [Result.ok.injEq, and_true]; rw [Bool.eq_iff_iff]; simp⟩
def ok_A4_int32 : World → S_A4_int32 → Prop := fun w x => okI .i32 w x.e0 ∧ okI .i32 w x.e1 ∧ okI .i32 w x.e2 ∧ okI .i32 w x.e3
instance : Rd Try.prog 34 e_A4_int32 ok_A4_int32 := ⟨fun {H enc w fuel cs x} h => by
  obtain ⟨xs, m, _, _, hl, hlen, hf⟩ := DataW.trod_array Try.underlying34 h
  rw [cellsOf_of (n := 4)] at hl
  match cs, hl with
  | [c0, c1, c2, c3], _ =>
    obtain ⟨y0, e0, k0, l0⟩ := Rd.elt (P := Try.prog) (t' := 21) hf hlen 0 (by omega) 0 rfl
    replace e0 : [c0] = [.int .i32 y0] := e0
    replace l0 : ∀ c, c ∈ [c0] → fl c = true := l0
    obtain ⟨y1, e1, k1, l1⟩ := Rd.elt (P := Try.prog) (t' := 21) hf hlen 1 (by omega) 1 rfl
    replace e1 : [c1] = [.int .i32 y1] := e1
    replace l1 : ∀ c, c ∈ [c1] → fl c = true := l1
    obtain ⟨y2, e2, k2, l2⟩ := Rd.elt (P := Try.prog) (t' := 21) hf hlen 2 (by omega) 2 rfl
    replace e2 : [c2] = [.int .i32 y2] := e2
    replace l2 : ∀ c, c ∈ [c2] → fl c = true := l2
    obtain ⟨y3, e3, k3, l3⟩ := Rd.elt (P := Try.prog) (t' := 21) hf hlen 3 (by omega) 3 rfl
    replace e3 : [c3] = [.int .i32 y3] := e3
    replace l3 : ∀ c, c ∈ [c3] → fl c = true := l3
    have q0 := (List.cons.inj e0).1.symm; subst q0
    have q1 := (List.cons.inj e1).1.symm; subst q1
    have q2 := (List.cons.inj e2).1.symm; subst q2
    have q3 := (List.cons.inj e3).1.symm; subst q3
    refine ⟨⟨y0, y1, y2, y3⟩, rfl, ⟨k0, k1, k2, k3⟩, fun c hc => ?_⟩
    simp only [List.mem_cons, List.not_mem_nil, or_false] at hc
    rcases hc with rfl | rfl | rfl | rfl
    · exact l0 _ (by simp)
    · exact l1 _ (by simp)
    · exact l2 _ (by simp)
    · exact l3 _ (by simp)⟩
structure S_A2_int where
  e0 : Int
  e1 : Int
  deriving DecidableEq
instance : Dfl S_A2_int := ⟨⟨Dfl.d, Dfl.d⟩⟩
def e_A2_int : Enc S_A2_int := ⟨2, fun x => [.int .i64 x.e0, .int .i64 x.e1], fun _ => rfl⟩
instance : EncS e_A2_int 2 := ⟨rfl⟩
instance (x : S_A2_int) : EncC e_A2_int x [.int .i64 x.e0, .int .i64 x.e1] := ⟨rfl⟩
instance (y0 : Int) (y1 : Int) : EncI e_A2_int (.agg #[.int .i64 y0, .int .i64 y1]) ⟨y0, y1⟩ := ⟨rfl⟩
instance : TyE Try.prog 62 e_A2_int := ⟨(inferInstance : TySz Try.prog 62 2)⟩
instance : EqG Try.prog 62 := ⟨by kernel_rfl, by kernel_rfl⟩
instance : EqT Try.prog 62 (kS e_A2_int) 2 := ⟨fun d hd x y w => by
  obtain ⟨d, rfl⟩ : ∃ e, d = e + 1 := ⟨d - 1, by omega⟩
  refine (eqArray Try.underlying62 inferInstance (bs := [decide (x.e0 = y.e0), decide (x.e1 = y.e1)]) ?_).trans ?_
  · exact (EqAs.cons (t := 3) (V := (kI .i64)) (a := x.e0) (b := y.e0) (by omega) ((inferInstance : LiesL Try.prog 3 [.int .i64 x.e0, .int .i64 x.e1] 0 (.int .i64 x.e0)).lies) ((inferInstance : LiesL Try.prog 3 [.int .i64 y.e0, .int .i64 y.e1] 0 (.int .i64 y.e0)).lies) (EqAs.cons (t := 3) (V := (kI .i64)) (a := x.e1) (b := y.e1) (by omega) ((inferInstance : LiesL Try.prog 3 [.int .i64 x.e0, .int .i64 x.e1] 1 (.int .i64 x.e1)).lies) ((inferInstance : LiesL Try.prog 3 [.int .i64 y.e0, .int .i64 y.e1] 1 (.int .i64 y.e1)).lies) trivial))
  · cases x; cases y; simp only [Result.ok.injEq, and_true]; rw [Bool.eq_iff_iff]; simp⟩
def ok_A2_int : World → S_A2_int → Prop := fun w x => okI .i64 w x.e0 ∧ okI .i64 w x.e1
instance : Rd Try.prog 62 e_A2_int ok_A2_int := ⟨fun {H enc w fuel cs x} h => by
  obtain ⟨xs, m, _, _, hl, hlen, hf⟩ := DataW.trod_array Try.underlying62 h
  rw [cellsOf_of (n := 2)] at hl
  match cs, hl with
  | [c0, c1], _ =>
    obtain ⟨y0, e0, k0, l0⟩ := Rd.elt (P := Try.prog) (t' := 3) hf hlen 0 (by omega) 0 rfl
    replace e0 : [c0] = [.int .i64 y0] := e0
    replace l0 : ∀ c, c ∈ [c0] → fl c = true := l0
    obtain ⟨y1, e1, k1, l1⟩ := Rd.elt (P := Try.prog) (t' := 3) hf hlen 1 (by omega) 1 rfl
    replace e1 : [c1] = [.int .i64 y1] := e1
    replace l1 : ∀ c, c ∈ [c1] → fl c = true := l1
    have q0 := (List.cons.inj e0).1.symm; subst q0
    have q1 := (List.cons.inj e1).1.symm; subst q1
    refine ⟨⟨y0, y1⟩, rfl, ⟨k0, k1⟩, fun c hc => ?_⟩
    simp only [List.mem_cons, List.not_mem_nil, or_false] at hc
    rcases hc with rfl | rfl
    · exact l0 _ (by simp)
    · exact l1 _ (by simp)⟩
def ok_api_Part : World → S_api_Part → Prop := fun w x => okI .i64 w x.f_Ring ∧ okB w x.f_Half ∧ okI .i64 w x.f_Fuel ∧ okI .i64 w x.f_Refs ∧ okI .i64 w x.f_Futures ∧ (okS (eInt .i32) (okI .i32)) w x.f_Inputs ∧ (okS (eInt .u8) (okI .u8)) w x.f_Picks ∧ okI .u64 w x.f_Seed
instance : Rd Try.prog 26 e_api_Part ok_api_Part := ⟨fun {H enc w fuel cs x} h => by
  obtain ⟨xs, m, _, _, hl, hlen, hf⟩ := DataW.trod_struct Try.underlying26 h
  rw [cellsOf_of (n := 8)] at hl
  match cs, hl with
  | [c0, c1, c2, c3, c4, c5, c6, c7], _ =>
    obtain ⟨y0, e0, k0, l0⟩ := Rd.fld (P := Try.prog) (t' := 3) hf hlen 0 _ rfl rfl 0 rfl
    replace e0 : [c0] = [.int .i64 y0] := e0
    replace l0 : ∀ c, c ∈ [c0] → fl c = true := l0
    obtain ⟨y1, e1, k1, l1⟩ := Rd.fld (P := Try.prog) (t' := 4) hf hlen 1 _ rfl rfl 1 rfl
    replace e1 : [c1] = [.bool y1] := e1
    replace l1 : ∀ c, c ∈ [c1] → fl c = true := l1
    obtain ⟨y2, e2, k2, l2⟩ := Rd.fld (P := Try.prog) (t' := 3) hf hlen 2 _ rfl rfl 2 rfl
    replace e2 : [c2] = [.int .i64 y2] := e2
    replace l2 : ∀ c, c ∈ [c2] → fl c = true := l2
    obtain ⟨y3, e3, k3, l3⟩ := Rd.fld (P := Try.prog) (t' := 3) hf hlen 3 _ rfl rfl 3 rfl
    replace e3 : [c3] = [.int .i64 y3] := e3
    replace l3 : ∀ c, c ∈ [c3] → fl c = true := l3
    obtain ⟨y4, e4, k4, l4⟩ := Rd.fld (P := Try.prog) (t' := 3) hf hlen 4 _ rfl rfl 4 rfl
    replace e4 : [c4] = [.int .i64 y4] := e4
    replace l4 : ∀ c, c ∈ [c4] → fl c = true := l4
    obtain ⟨y5, e5, k5, l5⟩ := Rd.fld (P := Try.prog) (t' := 22) hf hlen 5 _ rfl rfl 5 rfl
    replace e5 : [c5] = [y5] := e5
    replace l5 : ∀ c, c ∈ [c5] → fl c = true := l5
    obtain ⟨y6, e6, k6, l6⟩ := Rd.fld (P := Try.prog) (t' := 23) hf hlen 6 _ rfl rfl 6 rfl
    replace e6 : [c6] = [y6] := e6
    replace l6 : ∀ c, c ∈ [c6] → fl c = true := l6
    obtain ⟨y7, e7, k7, l7⟩ := Rd.fld (P := Try.prog) (t' := 24) hf hlen 7 _ rfl rfl 7 rfl
    replace e7 : [c7] = [.int .u64 y7] := e7
    replace l7 : ∀ c, c ∈ [c7] → fl c = true := l7
    have q0 := (List.cons.inj e0).1.symm; subst q0
    have q1 := (List.cons.inj e1).1.symm; subst q1
    have q2 := (List.cons.inj e2).1.symm; subst q2
    have q3 := (List.cons.inj e3).1.symm; subst q3
    have q4 := (List.cons.inj e4).1.symm; subst q4
    have q5 := (List.cons.inj e5).1.symm; subst q5
    have q6 := (List.cons.inj e6).1.symm; subst q6
    have q7 := (List.cons.inj e7).1.symm; subst q7
    refine ⟨⟨y0, y1, y2, y3, y4, y5, y6, y7⟩, rfl, ⟨k0, k1, k2, k3, k4, k5, k6, k7⟩, fun c hc => ?_⟩
    simp only [List.mem_cons, List.not_mem_nil, or_false] at hc
    rcases hc with rfl | rfl | rfl | rfl | rfl | rfl | rfl | rfl
    · exact l0 _ (by simp)
    · exact l1 _ (by simp)
    · exact l2 _ (by simp)
    · exact l3 _ (by simp)
    · exact l4 _ (by simp)
    · exact l5 _ (by simp)
    · exact l6 _ (by simp)
    · exact l7 _ (by simp)⟩
def ok_api_Event : World → S_api_Event → Prop := fun w x => okI .i64 w x.f_Round ∧ okI .i64 w x.f_Label ∧ okI .i64 w x.f_Kind ∧ okI .i64 w x.f_Worker ∧ okI .i32 w x.f_Task ∧ okI .i32 w x.f_A ∧ okI .i32 w x.f_B
instance : Rd Try.prog 43 e_api_Event ok_api_Event := ⟨fun {H enc w fuel cs x} h => by
  obtain ⟨xs, m, _, _, hl, hlen, hf⟩ := DataW.trod_struct Try.underlying43 h
  rw [cellsOf_of (n := 7)] at hl
  match cs, hl with
  | [c0, c1, c2, c3, c4, c5, c6], _ =>
    obtain ⟨y0, e0, k0, l0⟩ := Rd.fld (P := Try.prog) (t' := 3) hf hlen 0 _ rfl rfl 0 rfl
    replace e0 : [c0] = [.int .i64 y0] := e0
    replace l0 : ∀ c, c ∈ [c0] → fl c = true := l0
    obtain ⟨y1, e1, k1, l1⟩ := Rd.fld (P := Try.prog) (t' := 3) hf hlen 1 _ rfl rfl 1 rfl
    replace e1 : [c1] = [.int .i64 y1] := e1
    replace l1 : ∀ c, c ∈ [c1] → fl c = true := l1
    obtain ⟨y2, e2, k2, l2⟩ := Rd.fld (P := Try.prog) (t' := 3) hf hlen 2 _ rfl rfl 2 rfl
    replace e2 : [c2] = [.int .i64 y2] := e2
    replace l2 : ∀ c, c ∈ [c2] → fl c = true := l2
    obtain ⟨y3, e3, k3, l3⟩ := Rd.fld (P := Try.prog) (t' := 3) hf hlen 3 _ rfl rfl 3 rfl
    replace e3 : [c3] = [.int .i64 y3] := e3
    replace l3 : ∀ c, c ∈ [c3] → fl c = true := l3
    obtain ⟨y4, e4, k4, l4⟩ := Rd.fld (P := Try.prog) (t' := 21) hf hlen 4 _ rfl rfl 4 rfl
    replace e4 : [c4] = [.int .i32 y4] := e4
    replace l4 : ∀ c, c ∈ [c4] → fl c = true := l4
    obtain ⟨y5, e5, k5, l5⟩ := Rd.fld (P := Try.prog) (t' := 21) hf hlen 5 _ rfl rfl 5 rfl
    replace e5 : [c5] = [.int .i32 y5] := e5
    replace l5 : ∀ c, c ∈ [c5] → fl c = true := l5
    obtain ⟨y6, e6, k6, l6⟩ := Rd.fld (P := Try.prog) (t' := 21) hf hlen 6 _ rfl rfl 6 rfl
    replace e6 : [c6] = [.int .i32 y6] := e6
    replace l6 : ∀ c, c ∈ [c6] → fl c = true := l6
    have q0 := (List.cons.inj e0).1.symm; subst q0
    have q1 := (List.cons.inj e1).1.symm; subst q1
    have q2 := (List.cons.inj e2).1.symm; subst q2
    have q3 := (List.cons.inj e3).1.symm; subst q3
    have q4 := (List.cons.inj e4).1.symm; subst q4
    have q5 := (List.cons.inj e5).1.symm; subst q5
    have q6 := (List.cons.inj e6).1.symm; subst q6
    refine ⟨⟨y0, y1, y2, y3, y4, y5, y6⟩, rfl, ⟨k0, k1, k2, k3, k4, k5, k6⟩, fun c hc => ?_⟩
    simp only [List.mem_cons, List.not_mem_nil, or_false] at hc
    rcases hc with rfl | rfl | rfl | rfl | rfl | rfl | rfl
    · exact l0 _ (by simp)
    · exact l1 _ (by simp)
    · exact l2 _ (by simp)
    · exact l3 _ (by simp)
    · exact l4 _ (by simp)
    · exact l5 _ (by simp)
    · exact l6 _ (by simp)⟩
def ok_api_Future : World → S_api_Future → Prop := fun w x => okI .i64 w x.f_Label ∧ okI .i64 w x.f_State ∧ okI .i32 w x.f_Value ∧ okI .i64 w x.f_Code
instance : Rd Try.prog 96 e_api_Future ok_api_Future := ⟨fun {H enc w fuel cs x} h => by
  obtain ⟨xs, m, _, _, hl, hlen, hf⟩ := DataW.trod_struct Try.underlying96 h
  rw [cellsOf_of (n := 4)] at hl
  match cs, hl with
  | [c0, c1, c2, c3], _ =>
    obtain ⟨y0, e0, k0, l0⟩ := Rd.fld (P := Try.prog) (t' := 3) hf hlen 0 _ rfl rfl 0 rfl
    replace e0 : [c0] = [.int .i64 y0] := e0
    replace l0 : ∀ c, c ∈ [c0] → fl c = true := l0
    obtain ⟨y1, e1, k1, l1⟩ := Rd.fld (P := Try.prog) (t' := 3) hf hlen 1 _ rfl rfl 1 rfl
    replace e1 : [c1] = [.int .i64 y1] := e1
    replace l1 : ∀ c, c ∈ [c1] → fl c = true := l1
    obtain ⟨y2, e2, k2, l2⟩ := Rd.fld (P := Try.prog) (t' := 21) hf hlen 2 _ rfl rfl 2 rfl
    replace e2 : [c2] = [.int .i32 y2] := e2
    replace l2 : ∀ c, c ∈ [c2] → fl c = true := l2
    obtain ⟨y3, e3, k3, l3⟩ := Rd.fld (P := Try.prog) (t' := 61) hf hlen 3 _ rfl rfl 3 rfl
    replace e3 : [c3] = [.int .i64 y3] := e3
    replace l3 : ∀ c, c ∈ [c3] → fl c = true := l3
    have q0 := (List.cons.inj e0).1.symm; subst q0
    have q1 := (List.cons.inj e1).1.symm; subst q1
    have q2 := (List.cons.inj e2).1.symm; subst q2
    have q3 := (List.cons.inj e3).1.symm; subst q3
    refine ⟨⟨y0, y1, y2, y3⟩, rfl, ⟨k0, k1, k2, k3⟩, fun c hc => ?_⟩
    simp only [List.mem_cons, List.not_mem_nil, or_false] at hc
    rcases hc with rfl | rfl | rfl | rfl
    · exact l0 _ (by simp)
    · exact l1 _ (by simp)
    · exact l2 _ (by simp)
    · exact l3 _ (by simp)⟩
def ok_future_done : World → S_future_done → Prop := fun w x => okI .i64 w x.f_state ∧ okI .i32 w x.f_v ∧ okI .i64 w x.f_code
instance : Rd Try.prog 103 e_future_done ok_future_done := ⟨fun {H enc w fuel cs x} h => by
  obtain ⟨xs, m, _, _, hl, hlen, hf⟩ := DataW.trod_struct Try.underlying103 h
  rw [cellsOf_of (n := 3)] at hl
  match cs, hl with
  | [c0, c1, c2], _ =>
    obtain ⟨y0, e0, k0, l0⟩ := Rd.fld (P := Try.prog) (t' := 3) hf hlen 0 _ rfl rfl 0 rfl
    replace e0 : [c0] = [.int .i64 y0] := e0
    replace l0 : ∀ c, c ∈ [c0] → fl c = true := l0
    obtain ⟨y1, e1, k1, l1⟩ := Rd.fld (P := Try.prog) (t' := 21) hf hlen 1 _ rfl rfl 1 rfl
    replace e1 : [c1] = [.int .i32 y1] := e1
    replace l1 : ∀ c, c ∈ [c1] → fl c = true := l1
    obtain ⟨y2, e2, k2, l2⟩ := Rd.fld (P := Try.prog) (t' := 61) hf hlen 2 _ rfl rfl 2 rfl
    replace e2 : [c2] = [.int .i64 y2] := e2
    replace l2 : ∀ c, c ∈ [c2] → fl c = true := l2
    have q0 := (List.cons.inj e0).1.symm; subst q0
    have q1 := (List.cons.inj e1).1.symm; subst q1
    have q2 := (List.cons.inj e2).1.symm; subst q2
    refine ⟨⟨y0, y1, y2⟩, rfl, ⟨k0, k1, k2⟩, fun c hc => ?_⟩
    simp only [List.mem_cons, List.not_mem_nil, or_false] at hc
    rcases hc with rfl | rfl | rfl
    · exact l0 _ (by simp)
    · exact l1 _ (by simp)
    · exact l2 _ (by simp)⟩
def ok_rng_Rng : World → S_rng_Rng → Prop := fun w x => okI .u64 w x.f_s
instance : Rd Try.prog 139 e_rng_Rng ok_rng_Rng := ⟨fun {H enc w fuel cs x} h => by
  obtain ⟨xs, m, _, _, hl, hlen, hf⟩ := DataW.trod_struct Try.underlying139 h
  rw [cellsOf_of (n := 1)] at hl
  match cs, hl with
  | [c0], _ =>
    obtain ⟨y0, e0, k0, l0⟩ := Rd.fld (P := Try.prog) (t' := 24) hf hlen 0 _ rfl rfl 0 rfl
    replace e0 : [c0] = [.int .u64 y0] := e0
    replace l0 : ∀ c, c ∈ [c0] → fl c = true := l0
    have q0 := (List.cons.inj e0).1.symm; subst q0
    refine ⟨⟨y0⟩, rfl, k0, fun c hc => ?_⟩
    simp only [List.mem_cons, List.not_mem_nil, or_false] at hc
    rcases hc with rfl
    · exact l0 _ (by simp)⟩
instance : EqG Try.prog 43 := ⟨by kernel_rfl, by kernel_rfl⟩
instance : EqT Try.prog 43 (kS e_api_Event) 2 := ⟨fun d hd x y w => by
  obtain ⟨d, rfl⟩ : ∃ e, d = e + 1 := ⟨d - 1, by omega⟩
  refine (eqStruct Try.underlying43 (by kernel_rfl) (bs := [decide (x.f_Round = y.f_Round), decide (x.f_Label = y.f_Label), decide (x.f_Kind = y.f_Kind), decide (x.f_Worker = y.f_Worker), decide (x.f_Task = y.f_Task), decide (x.f_A = y.f_A), decide (x.f_B = y.f_B)]) ?_).trans ?_
  · exact (EqFs.cons (t := 3) (V := (kI .i64)) (a := x.f_Round) (b := y.f_Round) rfl (by decide) (by omega) ((inferInstance : LiesL Try.prog 3 [.int .i64 x.f_Round, .int .i64 x.f_Label, .int .i64 x.f_Kind, .int .i64 x.f_Worker, .int .i32 x.f_Task, .int .i32 x.f_A, .int .i32 x.f_B] 0 (.int .i64 x.f_Round)).lies) ((inferInstance : LiesL Try.prog 3 [.int .i64 y.f_Round, .int .i64 y.f_Label, .int .i64 y.f_Kind, .int .i64 y.f_Worker, .int .i32 y.f_Task, .int .i32 y.f_A, .int .i32 y.f_B] 0 (.int .i64 y.f_Round)).lies) (EqFs.cons (t := 3) (V := (kI .i64)) (a := x.f_Label) (b := y.f_Label) rfl (by decide) (by omega) ((inferInstance : LiesL Try.prog 3 [.int .i64 x.f_Round, .int .i64 x.f_Label, .int .i64 x.f_Kind, .int .i64 x.f_Worker, .int .i32 x.f_Task, .int .i32 x.f_A, .int .i32 x.f_B] 1 (.int .i64 x.f_Label)).lies) ((inferInstance : LiesL Try.prog 3 [.int .i64 y.f_Round, .int .i64 y.f_Label, .int .i64 y.f_Kind, .int .i64 y.f_Worker, .int .i32 y.f_Task, .int .i32 y.f_A, .int .i32 y.f_B] 1 (.int .i64 y.f_Label)).lies) (EqFs.cons (t := 3) (V := (kI .i64)) (a := x.f_Kind) (b := y.f_Kind) rfl (by decide) (by omega) ((inferInstance : LiesL Try.prog 3 [.int .i64 x.f_Round, .int .i64 x.f_Label, .int .i64 x.f_Kind, .int .i64 x.f_Worker, .int .i32 x.f_Task, .int .i32 x.f_A, .int .i32 x.f_B] 2 (.int .i64 x.f_Kind)).lies) ((inferInstance : LiesL Try.prog 3 [.int .i64 y.f_Round, .int .i64 y.f_Label, .int .i64 y.f_Kind, .int .i64 y.f_Worker, .int .i32 y.f_Task, .int .i32 y.f_A, .int .i32 y.f_B] 2 (.int .i64 y.f_Kind)).lies) (EqFs.cons (t := 3) (V := (kI .i64)) (a := x.f_Worker) (b := y.f_Worker) rfl (by decide) (by omega) ((inferInstance : LiesL Try.prog 3 [.int .i64 x.f_Round, .int .i64 x.f_Label, .int .i64 x.f_Kind, .int .i64 x.f_Worker, .int .i32 x.f_Task, .int .i32 x.f_A, .int .i32 x.f_B] 3 (.int .i64 x.f_Worker)).lies) ((inferInstance : LiesL Try.prog 3 [.int .i64 y.f_Round, .int .i64 y.f_Label, .int .i64 y.f_Kind, .int .i64 y.f_Worker, .int .i32 y.f_Task, .int .i32 y.f_A, .int .i32 y.f_B] 3 (.int .i64 y.f_Worker)).lies) (EqFs.cons (t := 21) (V := (kI .i32)) (a := x.f_Task) (b := y.f_Task) rfl (by decide) (by omega) ((inferInstance : LiesL Try.prog 21 [.int .i64 x.f_Round, .int .i64 x.f_Label, .int .i64 x.f_Kind, .int .i64 x.f_Worker, .int .i32 x.f_Task, .int .i32 x.f_A, .int .i32 x.f_B] 4 (.int .i32 x.f_Task)).lies) ((inferInstance : LiesL Try.prog 21 [.int .i64 y.f_Round, .int .i64 y.f_Label, .int .i64 y.f_Kind, .int .i64 y.f_Worker, .int .i32 y.f_Task, .int .i32 y.f_A, .int .i32 y.f_B] 4 (.int .i32 y.f_Task)).lies) (EqFs.cons (t := 21) (V := (kI .i32)) (a := x.f_A) (b := y.f_A) rfl (by decide) (by omega) ((inferInstance : LiesL Try.prog 21 [.int .i64 x.f_Round, .int .i64 x.f_Label, .int .i64 x.f_Kind, .int .i64 x.f_Worker, .int .i32 x.f_Task, .int .i32 x.f_A, .int .i32 x.f_B] 5 (.int .i32 x.f_A)).lies) ((inferInstance : LiesL Try.prog 21 [.int .i64 y.f_Round, .int .i64 y.f_Label, .int .i64 y.f_Kind, .int .i64 y.f_Worker, .int .i32 y.f_Task, .int .i32 y.f_A, .int .i32 y.f_B] 5 (.int .i32 y.f_A)).lies) (EqFs.cons (t := 21) (V := (kI .i32)) (a := x.f_B) (b := y.f_B) rfl (by decide) (by omega) ((inferInstance : LiesL Try.prog 21 [.int .i64 x.f_Round, .int .i64 x.f_Label, .int .i64 x.f_Kind, .int .i64 x.f_Worker, .int .i32 x.f_Task, .int .i32 x.f_A, .int .i32 x.f_B] 6 (.int .i32 x.f_B)).lies) ((inferInstance : LiesL Try.prog 21 [.int .i64 y.f_Round, .int .i64 y.f_Label, .int .i64 y.f_Kind, .int .i64 y.f_Worker, .int .i32 y.f_Task, .int .i32 y.f_A, .int .i32 y.f_B] 6 (.int .i32 y.f_B)).lies) trivial)))))))
  · cases x; cases y; simp only [Result.ok.injEq, and_true]; rw [Bool.eq_iff_iff]; simp⟩
instance : EqG Try.prog 96 := ⟨by kernel_rfl, by kernel_rfl⟩
instance : EqT Try.prog 96 (kS e_api_Future) 2 := ⟨fun d hd x y w => by
  obtain ⟨d, rfl⟩ : ∃ e, d = e + 1 := ⟨d - 1, by omega⟩
  refine (eqStruct Try.underlying96 (by kernel_rfl) (bs := [decide (x.f_Label = y.f_Label), decide (x.f_State = y.f_State), decide (x.f_Value = y.f_Value), decide (x.f_Code = y.f_Code)]) ?_).trans ?_
  · exact (EqFs.cons (t := 3) (V := (kI .i64)) (a := x.f_Label) (b := y.f_Label) rfl (by decide) (by omega) ((inferInstance : LiesL Try.prog 3 [.int .i64 x.f_Label, .int .i64 x.f_State, .int .i32 x.f_Value, .int .i64 x.f_Code] 0 (.int .i64 x.f_Label)).lies) ((inferInstance : LiesL Try.prog 3 [.int .i64 y.f_Label, .int .i64 y.f_State, .int .i32 y.f_Value, .int .i64 y.f_Code] 0 (.int .i64 y.f_Label)).lies) (EqFs.cons (t := 3) (V := (kI .i64)) (a := x.f_State) (b := y.f_State) rfl (by decide) (by omega) ((inferInstance : LiesL Try.prog 3 [.int .i64 x.f_Label, .int .i64 x.f_State, .int .i32 x.f_Value, .int .i64 x.f_Code] 1 (.int .i64 x.f_State)).lies) ((inferInstance : LiesL Try.prog 3 [.int .i64 y.f_Label, .int .i64 y.f_State, .int .i32 y.f_Value, .int .i64 y.f_Code] 1 (.int .i64 y.f_State)).lies) (EqFs.cons (t := 21) (V := (kI .i32)) (a := x.f_Value) (b := y.f_Value) rfl (by decide) (by omega) ((inferInstance : LiesL Try.prog 21 [.int .i64 x.f_Label, .int .i64 x.f_State, .int .i32 x.f_Value, .int .i64 x.f_Code] 2 (.int .i32 x.f_Value)).lies) ((inferInstance : LiesL Try.prog 21 [.int .i64 y.f_Label, .int .i64 y.f_State, .int .i32 y.f_Value, .int .i64 y.f_Code] 2 (.int .i32 y.f_Value)).lies) (EqFs.cons (t := 61) (V := (kI .i64)) (a := x.f_Code) (b := y.f_Code) rfl (by decide) (by omega) ((inferInstance : LiesL Try.prog 61 [.int .i64 x.f_Label, .int .i64 x.f_State, .int .i32 x.f_Value, .int .i64 x.f_Code] 3 (.int .i64 x.f_Code)).lies) ((inferInstance : LiesL Try.prog 61 [.int .i64 y.f_Label, .int .i64 y.f_State, .int .i32 y.f_Value, .int .i64 y.f_Code] 3 (.int .i64 y.f_Code)).lies) trivial))))
  · cases x; cases y; simp only [Result.ok.injEq, and_true]; rw [Bool.eq_iff_iff]; simp⟩
instance : EqG Try.prog 103 := ⟨by kernel_rfl, by kernel_rfl⟩
instance : EqT Try.prog 103 (kS e_future_done) 2 := ⟨fun d hd x y w => by
  obtain ⟨d, rfl⟩ : ∃ e, d = e + 1 := ⟨d - 1, by omega⟩
  refine (eqStruct Try.underlying103 (by kernel_rfl) (bs := [decide (x.f_state = y.f_state), decide (x.f_v = y.f_v), decide (x.f_code = y.f_code)]) ?_).trans ?_
  · exact (EqFs.cons (t := 3) (V := (kI .i64)) (a := x.f_state) (b := y.f_state) rfl (by decide) (by omega) ((inferInstance : LiesL Try.prog 3 [.int .i64 x.f_state, .int .i32 x.f_v, .int .i64 x.f_code] 0 (.int .i64 x.f_state)).lies) ((inferInstance : LiesL Try.prog 3 [.int .i64 y.f_state, .int .i32 y.f_v, .int .i64 y.f_code] 0 (.int .i64 y.f_state)).lies) (EqFs.cons (t := 21) (V := (kI .i32)) (a := x.f_v) (b := y.f_v) rfl (by decide) (by omega) ((inferInstance : LiesL Try.prog 21 [.int .i64 x.f_state, .int .i32 x.f_v, .int .i64 x.f_code] 1 (.int .i32 x.f_v)).lies) ((inferInstance : LiesL Try.prog 21 [.int .i64 y.f_state, .int .i32 y.f_v, .int .i64 y.f_code] 1 (.int .i32 y.f_v)).lies) (EqFs.cons (t := 61) (V := (kI .i64)) (a := x.f_code) (b := y.f_code) rfl (by decide) (by omega) ((inferInstance : LiesL Try.prog 61 [.int .i64 x.f_state, .int .i32 x.f_v, .int .i64 x.f_code] 2 (.int .i64 x.f_code)).lies) ((inferInstance : LiesL Try.prog 61 [.int .i64 y.f_state, .int .i32 y.f_v, .int .i64 y.f_code] 2 (.int .i64 y.f_code)).lies) trivial)))
  · cases x; cases y; simp only [Result.ok.injEq, and_true]; rw [Bool.eq_iff_iff]; simp⟩
instance : EqG Try.prog 139 := ⟨by kernel_rfl, by kernel_rfl⟩
instance : EqT Try.prog 139 (kS e_rng_Rng) 2 := ⟨fun d hd x y w => by
  obtain ⟨d, rfl⟩ : ∃ e, d = e + 1 := ⟨d - 1, by omega⟩
  refine (eqStruct Try.underlying139 (by kernel_rfl) (bs := [decide (x.f_s = y.f_s)]) ?_).trans ?_
  · exact (EqFs.cons (t := 24) (V := (kI .u64)) (a := x.f_s) (b := y.f_s) rfl (by decide) (by omega) ((inferInstance : LiesL Try.prog 24 [.int .u64 x.f_s] 0 (.int .u64 x.f_s)).lies) ((inferInstance : LiesL Try.prog 24 [.int .u64 y.f_s] 0 (.int .u64 y.f_s)).lies) trivial)
  · cases x; cases y; simp only [Result.ok.injEq, and_true]; rw [Bool.eq_iff_iff]; simp⟩
theorem mixed : Try.prog.follows .mixedOrders = true := by kernel_rfl
end Go.Proofs.Ytihmbmoeedojoaa
