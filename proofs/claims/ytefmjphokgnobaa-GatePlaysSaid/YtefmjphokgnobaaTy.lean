/- Facts on the types and functions of the program. Conditions: none. -/
import Derived.Test.YtefmjphokgnobaaProg
import Derived.Test.YtefmjphokgnobaaSlC
namespace Go.Proofs.Ytefmjphokgnobaa
open Go Go.Sl
set_option linter.unusedVariables false
set_option maxRecDepth 100000
instance : TySz Try.prog 1 1 := ⟨by kernel_rfl⟩
instance : TyB Try.prog 1 8 := ⟨by kernel_rfl⟩
instance : Agg Try.prog 1 false := ⟨by kernel_rfl⟩
instance : TyZ Try.prog 1 (.nilFunc) := ⟨by kernel_rfl⟩
instance : TySz Try.prog 2 1 := ⟨by kernel_rfl⟩
instance : TyB Try.prog 2 8 := ⟨by kernel_rfl⟩
instance : Agg Try.prog 2 false := ⟨by kernel_rfl⟩
instance : TyU Try.prog 2 (.int .i64) := ⟨Try.underlying2⟩
instance : TyZ Try.prog 2 (.int .i64 0) := ⟨by kernel_rfl⟩
instance : TySz Try.prog 3 1 := ⟨by kernel_rfl⟩
instance : TyB Try.prog 3 8 := ⟨by kernel_rfl⟩
instance : Agg Try.prog 3 false := ⟨by kernel_rfl⟩
instance : TyU Try.prog 3 (.int .i64) := ⟨Try.underlying3⟩
instance : TyZ Try.prog 3 (.int .i64 0) := ⟨by kernel_rfl⟩
instance : TySz Try.prog 4 1 := ⟨by kernel_rfl⟩
instance : TyB Try.prog 4 1 := ⟨by kernel_rfl⟩
instance : Agg Try.prog 4 false := ⟨by kernel_rfl⟩
instance : TyU Try.prog 4 .bool := ⟨Try.underlying4⟩
instance : TyZ Try.prog 4 (.bool false) := ⟨by kernel_rfl⟩
instance : TySz Try.prog 5 1 := ⟨by kernel_rfl⟩
instance : TyB Try.prog 5 1 := ⟨by kernel_rfl⟩
instance : Agg Try.prog 5 false := ⟨by kernel_rfl⟩
instance : TyU Try.prog 5 (.int .u8) := ⟨Try.underlying5⟩
instance : TyZ Try.prog 5 (.int .u8 0) := ⟨by kernel_rfl⟩
instance : TySz Try.prog 9 1 := ⟨by kernel_rfl⟩
instance : TyB Try.prog 9 16 := ⟨by kernel_rfl⟩
instance : Agg Try.prog 9 false := ⟨by kernel_rfl⟩
instance : TyU Try.prog 9 .string := ⟨Try.underlying9⟩
instance : TySz Try.prog 12 1 := ⟨by kernel_rfl⟩
instance : TyB Try.prog 12 8 := ⟨by kernel_rfl⟩
instance : Agg Try.prog 12 false := ⟨by kernel_rfl⟩
instance : TyU Try.prog 12 (.int .u64) := ⟨Try.underlying12⟩
instance : TyZ Try.prog 12 (.int .u64 0) := ⟨by kernel_rfl⟩
instance : TySz Try.prog 13 2 := ⟨by kernel_rfl⟩
instance : TyB Try.prog 13 24 := ⟨by kernel_rfl⟩
instance : Agg Try.prog 13 true := ⟨by kernel_rfl⟩
instance : TyF Try.prog 13 0 0 9 := ⟨⟨_, _, Try.underlying13, rfl, rfl, rfl⟩⟩
instance : TyF Try.prog 13 1 1 12 := ⟨⟨_, _, Try.underlying13, rfl, rfl, rfl⟩⟩
instance : TyPl Try.prog 13 [(0, 1), (1, 1)] := ⟨⟨_, Try.underlying13, by kernel_rfl⟩⟩
instance : TySz Try.prog 20 1 := ⟨by kernel_rfl⟩
instance : TyB Try.prog 20 16 := ⟨by kernel_rfl⟩
instance : Agg Try.prog 20 false := ⟨by kernel_rfl⟩
instance : TyZ Try.prog 20 (.nilIface) := ⟨by kernel_rfl⟩
instance : TySz Try.prog 21 1 := ⟨by kernel_rfl⟩
instance : TyB Try.prog 21 4 := ⟨by kernel_rfl⟩
instance : Agg Try.prog 21 false := ⟨by kernel_rfl⟩
instance : TyU Try.prog 21 (.int .i32) := ⟨Try.underlying21⟩
instance : TyZ Try.prog 21 (.int .i32 0) := ⟨by kernel_rfl⟩
instance : TySz Try.prog 22 1 := ⟨by kernel_rfl⟩
instance : TyB Try.prog 22 24 := ⟨by kernel_rfl⟩
instance : Agg Try.prog 22 false := ⟨by kernel_rfl⟩
instance : TyU Try.prog 22 (.slice 32) := ⟨Try.underlying22⟩
instance : TyZ Try.prog 22 (.slice none 0 0) := ⟨by kernel_rfl⟩
instance : TySz Try.prog 23 1 := ⟨by kernel_rfl⟩
instance : TyB Try.prog 23 24 := ⟨by kernel_rfl⟩
instance : Agg Try.prog 23 false := ⟨by kernel_rfl⟩
instance : TyU Try.prog 23 (.slice 41) := ⟨Try.underlying23⟩
instance : TyZ Try.prog 23 (.slice none 0 0) := ⟨by kernel_rfl⟩
instance : TySz Try.prog 24 1 := ⟨by kernel_rfl⟩
instance : TyB Try.prog 24 8 := ⟨by kernel_rfl⟩
instance : Agg Try.prog 24 false := ⟨by kernel_rfl⟩
instance : TyZ Try.prog 24 (.nilFunc) := ⟨by kernel_rfl⟩
instance : TySz Try.prog 25 1 := ⟨by kernel_rfl⟩
instance : TyB Try.prog 25 24 := ⟨by kernel_rfl⟩
instance : Agg Try.prog 25 false := ⟨by kernel_rfl⟩
instance : TyU Try.prog 25 (.slice 57) := ⟨Try.underlying25⟩
instance : TyZ Try.prog 25 (.slice none 0 0) := ⟨by kernel_rfl⟩
instance : TySz Try.prog 26 1 := ⟨by kernel_rfl⟩
instance : TyB Try.prog 26 8 := ⟨by kernel_rfl⟩
instance : Agg Try.prog 26 false := ⟨by kernel_rfl⟩
instance : TyZ Try.prog 26 (.nilFunc) := ⟨by kernel_rfl⟩
instance : TySz Try.prog 27 1 := ⟨by kernel_rfl⟩
instance : TyB Try.prog 27 8 := ⟨by kernel_rfl⟩
instance : Agg Try.prog 27 false := ⟨by kernel_rfl⟩
instance : TyU Try.prog 27 (.pointer 71) := ⟨Try.underlying27⟩
instance : TyZ Try.prog 27 (.pointer none) := ⟨by kernel_rfl⟩
instance : TySz Try.prog 28 1 := ⟨by kernel_rfl⟩
instance : TyB Try.prog 28 8 := ⟨by kernel_rfl⟩
instance : Agg Try.prog 28 false := ⟨by kernel_rfl⟩
instance : TyU Try.prog 28 (.int .i64) := ⟨Try.underlying28⟩
instance : TyZ Try.prog 28 (.int .i64 0) := ⟨by kernel_rfl⟩
instance : TySz Try.prog 30 1 := ⟨by kernel_rfl⟩
instance : TyB Try.prog 30 8 := ⟨by kernel_rfl⟩
instance : Agg Try.prog 30 false := ⟨by kernel_rfl⟩
instance : TyZ Try.prog 30 (.nilFunc) := ⟨by kernel_rfl⟩
instance : TySz Try.prog 31 1 := ⟨by kernel_rfl⟩
instance : TyB Try.prog 31 24 := ⟨by kernel_rfl⟩
instance : Agg Try.prog 31 false := ⟨by kernel_rfl⟩
instance : TyU Try.prog 31 (.slice 35) := ⟨Try.underlying31⟩
instance : TyZ Try.prog 31 (.slice none 0 0) := ⟨by kernel_rfl⟩
instance : TySz Try.prog 32 4 := ⟨by kernel_rfl⟩
instance : TyB Try.prog 32 4 := ⟨by kernel_rfl⟩
instance : Agg Try.prog 32 true := ⟨by kernel_rfl⟩
instance : TyU Try.prog 32 (.array 4 5) := ⟨Try.underlying32⟩
instance : TyZ Try.prog 32 (.agg #[.int .u8 0, .int .u8 0, .int .u8 0, .int .u8 0]) := ⟨by kernel_rfl⟩
instance : TySz Try.prog 33 1 := ⟨by kernel_rfl⟩
instance : TyB Try.prog 33 4 := ⟨by kernel_rfl⟩
instance : Agg Try.prog 33 false := ⟨by kernel_rfl⟩
instance : TyU Try.prog 33 (.int .u32) := ⟨Try.underlying33⟩
instance : TyZ Try.prog 33 (.int .u32 0) := ⟨by kernel_rfl⟩
instance : TySz Try.prog 34 4 := ⟨by kernel_rfl⟩
instance : TyB Try.prog 34 32 := ⟨by kernel_rfl⟩
instance : Agg Try.prog 34 true := ⟨by kernel_rfl⟩
instance : TyZ Try.prog 34 (.agg #[.int .i64 0, .int .i64 0, .int .u32 0, .int .i64 0]) := ⟨by kernel_rfl⟩
instance : TyF Try.prog 34 0 0 3 := ⟨⟨_, _, Try.underlying34, rfl, rfl, rfl⟩⟩
instance : TyF Try.prog 34 1 1 3 := ⟨⟨_, _, Try.underlying34, rfl, rfl, rfl⟩⟩
instance : TyF Try.prog 34 2 2 33 := ⟨⟨_, _, Try.underlying34, rfl, rfl, rfl⟩⟩
instance : TyF Try.prog 34 3 3 3 := ⟨⟨_, _, Try.underlying34, rfl, rfl, rfl⟩⟩
instance : TyPl Try.prog 34 [(0, 1), (1, 1), (2, 1), (3, 1)] := ⟨⟨_, Try.underlying34, by kernel_rfl⟩⟩
instance : TySz Try.prog 35 4 := ⟨by kernel_rfl⟩
instance : TyB Try.prog 35 32 := ⟨by kernel_rfl⟩
instance : Agg Try.prog 35 true := ⟨by kernel_rfl⟩
instance : TyZ Try.prog 35 (.agg #[.int .i64 0, .int .i64 0, .int .u32 0, .int .i64 0]) := ⟨by kernel_rfl⟩
instance : TyF Try.prog 35 0 0 3 := ⟨⟨_, _, Try.underlying35, rfl, rfl, rfl⟩⟩
instance : TyF Try.prog 35 1 1 3 := ⟨⟨_, _, Try.underlying35, rfl, rfl, rfl⟩⟩
instance : TyF Try.prog 35 2 2 33 := ⟨⟨_, _, Try.underlying35, rfl, rfl, rfl⟩⟩
instance : TyF Try.prog 35 3 3 3 := ⟨⟨_, _, Try.underlying35, rfl, rfl, rfl⟩⟩
instance : TyPl Try.prog 35 [(0, 1), (1, 1), (2, 1), (3, 1)] := ⟨⟨_, Try.underlying35, by kernel_rfl⟩⟩
instance : TySz Try.prog 36 1 := ⟨by kernel_rfl⟩
instance : TyB Try.prog 36 8 := ⟨by kernel_rfl⟩
instance : Agg Try.prog 36 false := ⟨by kernel_rfl⟩
instance : TyU Try.prog 36 (.pointer 82) := ⟨Try.underlying36⟩
instance : TyZ Try.prog 36 (.pointer none) := ⟨by kernel_rfl⟩
instance : TySz Try.prog 37 1 := ⟨by kernel_rfl⟩
instance : TyB Try.prog 37 8 := ⟨by kernel_rfl⟩
instance : Agg Try.prog 37 false := ⟨by kernel_rfl⟩
instance : TyZ Try.prog 37 (.nilFunc) := ⟨by kernel_rfl⟩
instance : TySz Try.prog 38 1 := ⟨by kernel_rfl⟩
instance : TyB Try.prog 38 8 := ⟨by kernel_rfl⟩
instance : Agg Try.prog 38 false := ⟨by kernel_rfl⟩
instance : TyU Try.prog 38 (.pointer 86) := ⟨Try.underlying38⟩
instance : TyZ Try.prog 38 (.pointer none) := ⟨by kernel_rfl⟩
instance : TySz Try.prog 39 1 := ⟨by kernel_rfl⟩
instance : TyB Try.prog 39 8 := ⟨by kernel_rfl⟩
instance : Agg Try.prog 39 false := ⟨by kernel_rfl⟩
instance : TyZ Try.prog 39 (.nilFunc) := ⟨by kernel_rfl⟩
instance : TySz Try.prog 40 7 := ⟨by kernel_rfl⟩
instance : TyB Try.prog 40 24 := ⟨by kernel_rfl⟩
instance : Agg Try.prog 40 true := ⟨by kernel_rfl⟩
instance : TyZ Try.prog 40 (.agg #[.int .u8 0, .int .u8 0, .int .u8 0, .int .u8 0, .int .i32 0, .int .i32 0, .int .i64 0]) := ⟨by kernel_rfl⟩
instance : TyF Try.prog 40 0 0 5 := ⟨⟨_, _, Try.underlying40, rfl, rfl, rfl⟩⟩
instance : TyF Try.prog 40 1 1 5 := ⟨⟨_, _, Try.underlying40, rfl, rfl, rfl⟩⟩
instance : TyF Try.prog 40 2 2 5 := ⟨⟨_, _, Try.underlying40, rfl, rfl, rfl⟩⟩
instance : TyF Try.prog 40 3 3 5 := ⟨⟨_, _, Try.underlying40, rfl, rfl, rfl⟩⟩
instance : TyF Try.prog 40 4 4 21 := ⟨⟨_, _, Try.underlying40, rfl, rfl, rfl⟩⟩
instance : TyF Try.prog 40 5 5 21 := ⟨⟨_, _, Try.underlying40, rfl, rfl, rfl⟩⟩
instance : TyF Try.prog 40 6 6 3 := ⟨⟨_, _, Try.underlying40, rfl, rfl, rfl⟩⟩
instance : TyPl Try.prog 40 [(0, 1), (1, 1), (2, 1), (3, 1), (4, 1), (5, 1), (6, 1)] := ⟨⟨_, Try.underlying40, by kernel_rfl⟩⟩
instance : TySz Try.prog 41 7 := ⟨by kernel_rfl⟩
instance : TyB Try.prog 41 24 := ⟨by kernel_rfl⟩
instance : Agg Try.prog 41 true := ⟨by kernel_rfl⟩
instance : TyZ Try.prog 41 (.agg #[.int .u8 0, .int .u8 0, .int .u8 0, .int .u8 0, .int .i32 0, .int .i32 0, .int .i64 0]) := ⟨by kernel_rfl⟩
instance : TyF Try.prog 41 0 0 5 := ⟨⟨_, _, Try.underlying41, rfl, rfl, rfl⟩⟩
instance : TyF Try.prog 41 1 1 5 := ⟨⟨_, _, Try.underlying41, rfl, rfl, rfl⟩⟩
instance : TyF Try.prog 41 2 2 5 := ⟨⟨_, _, Try.underlying41, rfl, rfl, rfl⟩⟩
instance : TyF Try.prog 41 3 3 5 := ⟨⟨_, _, Try.underlying41, rfl, rfl, rfl⟩⟩
instance : TyF Try.prog 41 4 4 21 := ⟨⟨_, _, Try.underlying41, rfl, rfl, rfl⟩⟩
instance : TyF Try.prog 41 5 5 21 := ⟨⟨_, _, Try.underlying41, rfl, rfl, rfl⟩⟩
instance : TyF Try.prog 41 6 6 3 := ⟨⟨_, _, Try.underlying41, rfl, rfl, rfl⟩⟩
instance : TyPl Try.prog 41 [(0, 1), (1, 1), (2, 1), (3, 1), (4, 1), (5, 1), (6, 1)] := ⟨⟨_, Try.underlying41, by kernel_rfl⟩⟩
instance : TySz Try.prog 42 1 := ⟨by kernel_rfl⟩
instance : TyB Try.prog 42 8 := ⟨by kernel_rfl⟩
instance : Agg Try.prog 42 false := ⟨by kernel_rfl⟩
instance : TyZ Try.prog 42 (.nilFunc) := ⟨by kernel_rfl⟩
instance : TySz Try.prog 43 1 := ⟨by kernel_rfl⟩
instance : TyB Try.prog 43 8 := ⟨by kernel_rfl⟩
instance : Agg Try.prog 43 false := ⟨by kernel_rfl⟩
instance : TyZ Try.prog 43 (.nilFunc) := ⟨by kernel_rfl⟩
instance : TySz Try.prog 44 1 := ⟨by kernel_rfl⟩
instance : TyB Try.prog 44 24 := ⟨by kernel_rfl⟩
instance : Agg Try.prog 44 false := ⟨by kernel_rfl⟩
instance : TyU Try.prog 44 (.slice 59) := ⟨Try.underlying44⟩
instance : TyZ Try.prog 44 (.slice none 0 0) := ⟨by kernel_rfl⟩
instance : TySz Try.prog 45 1 := ⟨by kernel_rfl⟩
instance : TyB Try.prog 45 8 := ⟨by kernel_rfl⟩
instance : Agg Try.prog 45 false := ⟨by kernel_rfl⟩
instance : TyZ Try.prog 45 (.nilFunc) := ⟨by kernel_rfl⟩
instance : TySz Try.prog 47 1 := ⟨by kernel_rfl⟩
instance : TyB Try.prog 47 8 := ⟨by kernel_rfl⟩
instance : Agg Try.prog 47 false := ⟨by kernel_rfl⟩
instance : TyZ Try.prog 47 (.nilFunc) := ⟨by kernel_rfl⟩
instance : TySz Try.prog 49 1 := ⟨by kernel_rfl⟩
instance : TyB Try.prog 49 8 := ⟨by kernel_rfl⟩
instance : Agg Try.prog 49 false := ⟨by kernel_rfl⟩
instance : TyZ Try.prog 49 (.nilFunc) := ⟨by kernel_rfl⟩
instance : TySz Try.prog 50 1 := ⟨by kernel_rfl⟩
instance : TyB Try.prog 50 8 := ⟨by kernel_rfl⟩
instance : Agg Try.prog 50 false := ⟨by kernel_rfl⟩
instance : TyZ Try.prog 50 (.nilFunc) := ⟨by kernel_rfl⟩
instance : TySz Try.prog 51 1 := ⟨by kernel_rfl⟩
instance : TyB Try.prog 51 8 := ⟨by kernel_rfl⟩
instance : Agg Try.prog 51 false := ⟨by kernel_rfl⟩
instance : TyZ Try.prog 51 (.nilFunc) := ⟨by kernel_rfl⟩
instance : TySz Try.prog 52 1 := ⟨by kernel_rfl⟩
instance : TyB Try.prog 52 8 := ⟨by kernel_rfl⟩
instance : Agg Try.prog 52 false := ⟨by kernel_rfl⟩
instance : TyZ Try.prog 52 (.nilFunc) := ⟨by kernel_rfl⟩
instance : TySz Try.prog 53 1 := ⟨by kernel_rfl⟩
instance : TyB Try.prog 53 8 := ⟨by kernel_rfl⟩
instance : Agg Try.prog 53 false := ⟨by kernel_rfl⟩
instance : TyZ Try.prog 53 (.nilFunc) := ⟨by kernel_rfl⟩
instance : TySz Try.prog 54 1 := ⟨by kernel_rfl⟩
instance : TyB Try.prog 54 24 := ⟨by kernel_rfl⟩
instance : Agg Try.prog 54 false := ⟨by kernel_rfl⟩
instance : TyU Try.prog 54 (.slice 5) := ⟨Try.underlying54⟩
instance : TyZ Try.prog 54 (.slice none 0 0) := ⟨by kernel_rfl⟩
instance : TySz Try.prog 55 1 := ⟨by kernel_rfl⟩
instance : TyB Try.prog 55 8 := ⟨by kernel_rfl⟩
instance : Agg Try.prog 55 false := ⟨by kernel_rfl⟩
instance : TyZ Try.prog 55 (.nilFunc) := ⟨by kernel_rfl⟩
instance : TySz Try.prog 56 1 := ⟨by kernel_rfl⟩
instance : TyB Try.prog 56 24 := ⟨by kernel_rfl⟩
instance : Agg Try.prog 56 false := ⟨by kernel_rfl⟩
instance : TyU Try.prog 56 (.slice 21) := ⟨Try.underlying56⟩
instance : TyZ Try.prog 56 (.slice none 0 0) := ⟨by kernel_rfl⟩
instance : TySz Try.prog 57 1 := ⟨by kernel_rfl⟩
instance : TyB Try.prog 57 24 := ⟨by kernel_rfl⟩
instance : Agg Try.prog 57 false := ⟨by kernel_rfl⟩
instance : TyU Try.prog 57 (.slice 4) := ⟨Try.underlying57⟩
instance : TyZ Try.prog 57 (.slice none 0 0) := ⟨by kernel_rfl⟩
instance : TySz Try.prog 58 6 := ⟨by kernel_rfl⟩
instance : TyB Try.prog 58 48 := ⟨by kernel_rfl⟩
instance : Agg Try.prog 58 true := ⟨by kernel_rfl⟩
instance : TyZ Try.prog 58 (.agg #[.int .i64 0, .int .i64 0, .int .i64 0, .int .i32 0, .int .i64 0, .int .i32 0]) := ⟨by kernel_rfl⟩
instance : TyF Try.prog 58 0 0 3 := ⟨⟨_, _, Try.underlying58, rfl, rfl, rfl⟩⟩
instance : TyF Try.prog 58 1 1 3 := ⟨⟨_, _, Try.underlying58, rfl, rfl, rfl⟩⟩
instance : TyF Try.prog 58 2 2 3 := ⟨⟨_, _, Try.underlying58, rfl, rfl, rfl⟩⟩
instance : TyF Try.prog 58 3 3 21 := ⟨⟨_, _, Try.underlying58, rfl, rfl, rfl⟩⟩
instance : TyF Try.prog 58 4 4 3 := ⟨⟨_, _, Try.underlying58, rfl, rfl, rfl⟩⟩
instance : TyF Try.prog 58 5 5 21 := ⟨⟨_, _, Try.underlying58, rfl, rfl, rfl⟩⟩
instance : TyPl Try.prog 58 [(0, 1), (1, 1), (2, 1), (3, 1), (4, 1), (5, 1)] := ⟨⟨_, Try.underlying58, by kernel_rfl⟩⟩
instance : TySz Try.prog 59 6 := ⟨by kernel_rfl⟩
instance : TyB Try.prog 59 48 := ⟨by kernel_rfl⟩
instance : Agg Try.prog 59 true := ⟨by kernel_rfl⟩
instance : TyZ Try.prog 59 (.agg #[.int .i64 0, .int .i64 0, .int .i64 0, .int .i32 0, .int .i64 0, .int .i32 0]) := ⟨by kernel_rfl⟩
instance : TyF Try.prog 59 0 0 3 := ⟨⟨_, _, Try.underlying59, rfl, rfl, rfl⟩⟩
instance : TyF Try.prog 59 1 1 3 := ⟨⟨_, _, Try.underlying59, rfl, rfl, rfl⟩⟩
instance : TyF Try.prog 59 2 2 3 := ⟨⟨_, _, Try.underlying59, rfl, rfl, rfl⟩⟩
instance : TyF Try.prog 59 3 3 21 := ⟨⟨_, _, Try.underlying59, rfl, rfl, rfl⟩⟩
instance : TyF Try.prog 59 4 4 3 := ⟨⟨_, _, Try.underlying59, rfl, rfl, rfl⟩⟩
instance : TyF Try.prog 59 5 5 21 := ⟨⟨_, _, Try.underlying59, rfl, rfl, rfl⟩⟩
instance : TyPl Try.prog 59 [(0, 1), (1, 1), (2, 1), (3, 1), (4, 1), (5, 1)] := ⟨⟨_, Try.underlying59, by kernel_rfl⟩⟩
instance : TySz Try.prog 60 1 := ⟨by kernel_rfl⟩
instance : TyB Try.prog 60 8 := ⟨by kernel_rfl⟩
instance : Agg Try.prog 60 false := ⟨by kernel_rfl⟩
instance : TyZ Try.prog 60 (.nilFunc) := ⟨by kernel_rfl⟩
instance : TySz Try.prog 61 1 := ⟨by kernel_rfl⟩
instance : TyB Try.prog 61 8 := ⟨by kernel_rfl⟩
instance : Agg Try.prog 61 false := ⟨by kernel_rfl⟩
instance : TyZ Try.prog 61 (.nilFunc) := ⟨by kernel_rfl⟩
instance : TySz Try.prog 62 3 := ⟨by kernel_rfl⟩
instance : TyB Try.prog 62 72 := ⟨by kernel_rfl⟩
instance : Agg Try.prog 62 true := ⟨by kernel_rfl⟩
instance : TyU Try.prog 62 (.array 3 56) := ⟨Try.underlying62⟩
instance : TyZ Try.prog 62 (.agg #[.slice none 0 0, .slice none 0 0, .slice none 0 0]) := ⟨by kernel_rfl⟩
instance : TySz Try.prog 63 3 := ⟨by kernel_rfl⟩
instance : TyB Try.prog 63 24 := ⟨by kernel_rfl⟩
instance : Agg Try.prog 63 true := ⟨by kernel_rfl⟩
instance : TyU Try.prog 63 (.array 3 3) := ⟨Try.underlying63⟩
instance : TyZ Try.prog 63 (.agg #[.int .i64 0, .int .i64 0, .int .i64 0]) := ⟨by kernel_rfl⟩
instance : TySz Try.prog 64 1 := ⟨by kernel_rfl⟩
instance : TyB Try.prog 64 8 := ⟨by kernel_rfl⟩
instance : Agg Try.prog 64 false := ⟨by kernel_rfl⟩
instance : TyZ Try.prog 64 (.nilFunc) := ⟨by kernel_rfl⟩
instance : TySz Try.prog 65 4 := ⟨by kernel_rfl⟩
instance : TyB Try.prog 65 32 := ⟨by kernel_rfl⟩
instance : Agg Try.prog 65 true := ⟨by kernel_rfl⟩
instance : TyU Try.prog 65 (.array 4 3) := ⟨Try.underlying65⟩
instance : TyZ Try.prog 65 (.agg #[.int .i64 0, .int .i64 0, .int .i64 0, .int .i64 0]) := ⟨by kernel_rfl⟩
instance : TySz Try.prog 66 8 := ⟨by kernel_rfl⟩
instance : TyB Try.prog 66 64 := ⟨by kernel_rfl⟩
instance : Agg Try.prog 66 true := ⟨by kernel_rfl⟩
instance : TyU Try.prog 66 (.array 2 65) := ⟨Try.underlying66⟩
instance : TyZ Try.prog 66 (.agg #[.int .i64 0, .int .i64 0, .int .i64 0, .int .i64 0, .int .i64 0, .int .i64 0, .int .i64 0, .int .i64 0]) := ⟨by kernel_rfl⟩
instance : TySz Try.prog 67 1 := ⟨by kernel_rfl⟩
instance : TyB Try.prog 67 8 := ⟨by kernel_rfl⟩
instance : Agg Try.prog 67 false := ⟨by kernel_rfl⟩
instance : TyZ Try.prog 67 (.nilFunc) := ⟨by kernel_rfl⟩
instance : TySz Try.prog 68 1 := ⟨by kernel_rfl⟩
instance : TyB Try.prog 68 8 := ⟨by kernel_rfl⟩
instance : Agg Try.prog 68 false := ⟨by kernel_rfl⟩
instance : TyZ Try.prog 68 (.nilFunc) := ⟨by kernel_rfl⟩
instance : TySz Try.prog 69 1 := ⟨by kernel_rfl⟩
instance : TyB Try.prog 69 24 := ⟨by kernel_rfl⟩
instance : Agg Try.prog 69 false := ⟨by kernel_rfl⟩
instance : TyU Try.prog 69 (.slice 72) := ⟨Try.underlying69⟩
instance : TyZ Try.prog 69 (.slice none 0 0) := ⟨by kernel_rfl⟩
instance : TySz Try.prog 70 5 := ⟨by kernel_rfl⟩
instance : TyB Try.prog 70 88 := ⟨by kernel_rfl⟩
instance : Agg Try.prog 70 true := ⟨by kernel_rfl⟩
instance : TyZ Try.prog 70 (.agg #[.slice none 0 0, .slice none 0 0, .slice none 0 0, .int .i64 0, .int .i64 0]) := ⟨by kernel_rfl⟩
instance : TyF Try.prog 70 0 0 69 := ⟨⟨_, _, Try.underlying70, rfl, rfl, rfl⟩⟩
instance : TyF Try.prog 70 1 1 69 := ⟨⟨_, _, Try.underlying70, rfl, rfl, rfl⟩⟩
instance : TyF Try.prog 70 2 2 69 := ⟨⟨_, _, Try.underlying70, rfl, rfl, rfl⟩⟩
instance : TyF Try.prog 70 3 3 3 := ⟨⟨_, _, Try.underlying70, rfl, rfl, rfl⟩⟩
instance : TyF Try.prog 70 4 4 3 := ⟨⟨_, _, Try.underlying70, rfl, rfl, rfl⟩⟩
instance : TyPl Try.prog 70 [(0, 1), (1, 1), (2, 1), (3, 1), (4, 1)] := ⟨⟨_, Try.underlying70, by kernel_rfl⟩⟩
instance : TySz Try.prog 71 5 := ⟨by kernel_rfl⟩
instance : TyB Try.prog 71 88 := ⟨by kernel_rfl⟩
instance : Agg Try.prog 71 true := ⟨by kernel_rfl⟩
instance : TyZ Try.prog 71 (.agg #[.slice none 0 0, .slice none 0 0, .slice none 0 0, .int .i64 0, .int .i64 0]) := ⟨by kernel_rfl⟩
instance : TyF Try.prog 71 0 0 69 := ⟨⟨_, _, Try.underlying71, rfl, rfl, rfl⟩⟩
instance : TyF Try.prog 71 1 1 69 := ⟨⟨_, _, Try.underlying71, rfl, rfl, rfl⟩⟩
instance : TyF Try.prog 71 2 2 69 := ⟨⟨_, _, Try.underlying71, rfl, rfl, rfl⟩⟩
instance : TyF Try.prog 71 3 3 3 := ⟨⟨_, _, Try.underlying71, rfl, rfl, rfl⟩⟩
instance : TyF Try.prog 71 4 4 3 := ⟨⟨_, _, Try.underlying71, rfl, rfl, rfl⟩⟩
instance : TyPl Try.prog 71 [(0, 1), (1, 1), (2, 1), (3, 1), (4, 1)] := ⟨⟨_, Try.underlying71, by kernel_rfl⟩⟩
instance : TySz Try.prog 72 1 := ⟨by kernel_rfl⟩
instance : TyB Try.prog 72 24 := ⟨by kernel_rfl⟩
instance : Agg Try.prog 72 false := ⟨by kernel_rfl⟩
instance : TyU Try.prog 72 (.slice 3) := ⟨Try.underlying72⟩
instance : TyZ Try.prog 72 (.slice none 0 0) := ⟨by kernel_rfl⟩
instance : TySz Try.prog 73 1 := ⟨by kernel_rfl⟩
instance : TyB Try.prog 73 8 := ⟨by kernel_rfl⟩
instance : Agg Try.prog 73 false := ⟨by kernel_rfl⟩
instance : TyZ Try.prog 73 (.nilFunc) := ⟨by kernel_rfl⟩
instance : TySz Try.prog 74 1 := ⟨by kernel_rfl⟩
instance : TyB Try.prog 74 8 := ⟨by kernel_rfl⟩
instance : Agg Try.prog 74 false := ⟨by kernel_rfl⟩
instance : TyZ Try.prog 74 (.nilFunc) := ⟨by kernel_rfl⟩
instance : TySz Try.prog 75 1 := ⟨by kernel_rfl⟩
instance : TyB Try.prog 75 8 := ⟨by kernel_rfl⟩
instance : Agg Try.prog 75 false := ⟨by kernel_rfl⟩
instance : TyZ Try.prog 75 (.nilFunc) := ⟨by kernel_rfl⟩
instance : TySz Try.prog 76 1 := ⟨by kernel_rfl⟩
instance : TyB Try.prog 76 8 := ⟨by kernel_rfl⟩
instance : Agg Try.prog 76 false := ⟨by kernel_rfl⟩
instance : TyZ Try.prog 76 (.nilFunc) := ⟨by kernel_rfl⟩
instance : TySz Try.prog 77 1 := ⟨by kernel_rfl⟩
instance : TyB Try.prog 77 24 := ⟨by kernel_rfl⟩
instance : Agg Try.prog 77 false := ⟨by kernel_rfl⟩
instance : TyU Try.prog 77 (.slice 56) := ⟨Try.underlying77⟩
instance : TyZ Try.prog 77 (.slice none 0 0) := ⟨by kernel_rfl⟩
instance : TySz Try.prog 78 1 := ⟨by kernel_rfl⟩
instance : TyB Try.prog 78 8 := ⟨by kernel_rfl⟩
instance : Agg Try.prog 78 false := ⟨by kernel_rfl⟩
instance : TyU Try.prog 78 (.map 88 3) := ⟨Try.underlying78⟩
instance : TyZ Try.prog 78 (.map none) := ⟨by kernel_rfl⟩
instance : TySz Try.prog 79 1 := ⟨by kernel_rfl⟩
instance : TyB Try.prog 79 8 := ⟨by kernel_rfl⟩
instance : Agg Try.prog 79 false := ⟨by kernel_rfl⟩
instance : TyU Try.prog 79 (.map 3 3) := ⟨Try.underlying79⟩
instance : TyZ Try.prog 79 (.map none) := ⟨by kernel_rfl⟩
instance : TySz Try.prog 80 1 := ⟨by kernel_rfl⟩
instance : TyB Try.prog 80 24 := ⟨by kernel_rfl⟩
instance : Agg Try.prog 80 false := ⟨by kernel_rfl⟩
instance : TyU Try.prog 80 (.slice 92) := ⟨Try.underlying80⟩
instance : TyZ Try.prog 80 (.slice none 0 0) := ⟨by kernel_rfl⟩
instance : TySz Try.prog 81 6 := ⟨by kernel_rfl⟩
instance : TyB Try.prog 81 96 := ⟨by kernel_rfl⟩
instance : Agg Try.prog 81 true := ⟨by kernel_rfl⟩
instance : TyZ Try.prog 81 (.agg #[.nilFunc, .slice none 0 0, .slice none 0 0, .slice none 0 0, .map none, .map none]) := ⟨by kernel_rfl⟩
instance : TyF Try.prog 81 0 0 75 := ⟨⟨_, _, Try.underlying81, rfl, rfl, rfl⟩⟩
instance : TyF Try.prog 81 1 1 31 := ⟨⟨_, _, Try.underlying81, rfl, rfl, rfl⟩⟩
instance : TyF Try.prog 81 2 2 80 := ⟨⟨_, _, Try.underlying81, rfl, rfl, rfl⟩⟩
instance : TyF Try.prog 81 3 3 77 := ⟨⟨_, _, Try.underlying81, rfl, rfl, rfl⟩⟩
instance : TyF Try.prog 81 4 4 78 := ⟨⟨_, _, Try.underlying81, rfl, rfl, rfl⟩⟩
instance : TyF Try.prog 81 5 5 79 := ⟨⟨_, _, Try.underlying81, rfl, rfl, rfl⟩⟩
instance : TyPl Try.prog 81 [(0, 1), (1, 1), (2, 1), (3, 1), (4, 1), (5, 1)] := ⟨⟨_, Try.underlying81, by kernel_rfl⟩⟩
instance : TySz Try.prog 82 6 := ⟨by kernel_rfl⟩
instance : TyB Try.prog 82 96 := ⟨by kernel_rfl⟩
instance : Agg Try.prog 82 true := ⟨by kernel_rfl⟩
instance : TyZ Try.prog 82 (.agg #[.nilFunc, .slice none 0 0, .slice none 0 0, .slice none 0 0, .map none, .map none]) := ⟨by kernel_rfl⟩
instance : TyF Try.prog 82 0 0 75 := ⟨⟨_, _, Try.underlying82, rfl, rfl, rfl⟩⟩
instance : TyF Try.prog 82 1 1 31 := ⟨⟨_, _, Try.underlying82, rfl, rfl, rfl⟩⟩
instance : TyF Try.prog 82 2 2 80 := ⟨⟨_, _, Try.underlying82, rfl, rfl, rfl⟩⟩
instance : TyF Try.prog 82 3 3 77 := ⟨⟨_, _, Try.underlying82, rfl, rfl, rfl⟩⟩
instance : TyF Try.prog 82 4 4 78 := ⟨⟨_, _, Try.underlying82, rfl, rfl, rfl⟩⟩
instance : TyF Try.prog 82 5 5 79 := ⟨⟨_, _, Try.underlying82, rfl, rfl, rfl⟩⟩
instance : TyPl Try.prog 82 [(0, 1), (1, 1), (2, 1), (3, 1), (4, 1), (5, 1)] := ⟨⟨_, Try.underlying82, by kernel_rfl⟩⟩
instance : TySz Try.prog 83 1 := ⟨by kernel_rfl⟩
instance : TyB Try.prog 83 24 := ⟨by kernel_rfl⟩
instance : Agg Try.prog 83 false := ⟨by kernel_rfl⟩
instance : TyU Try.prog 83 (.slice 94) := ⟨Try.underlying83⟩
instance : TyZ Try.prog 83 (.slice none 0 0) := ⟨by kernel_rfl⟩
instance : TySz Try.prog 84 1 := ⟨by kernel_rfl⟩
instance : TyB Try.prog 84 24 := ⟨by kernel_rfl⟩
instance : Agg Try.prog 84 false := ⟨by kernel_rfl⟩
instance : TyU Try.prog 84 (.slice 96) := ⟨Try.underlying84⟩
instance : TyZ Try.prog 84 (.slice none 0 0) := ⟨by kernel_rfl⟩
instance : TySz Try.prog 85 6 := ⟨by kernel_rfl⟩
instance : TyB Try.prog 85 144 := ⟨by kernel_rfl⟩
instance : Agg Try.prog 85 true := ⟨by kernel_rfl⟩
instance : TyZ Try.prog 85 (.agg #[.slice none 0 0, .slice none 0 0, .slice none 0 0, .slice none 0 0, .slice none 0 0, .slice none 0 0]) := ⟨by kernel_rfl⟩
instance : TyF Try.prog 85 0 0 25 := ⟨⟨_, _, Try.underlying85, rfl, rfl, rfl⟩⟩
instance : TyF Try.prog 85 1 1 31 := ⟨⟨_, _, Try.underlying85, rfl, rfl, rfl⟩⟩
instance : TyF Try.prog 85 2 2 83 := ⟨⟨_, _, Try.underlying85, rfl, rfl, rfl⟩⟩
instance : TyF Try.prog 85 3 3 84 := ⟨⟨_, _, Try.underlying85, rfl, rfl, rfl⟩⟩
instance : TyF Try.prog 85 4 4 77 := ⟨⟨_, _, Try.underlying85, rfl, rfl, rfl⟩⟩
instance : TyF Try.prog 85 5 5 72 := ⟨⟨_, _, Try.underlying85, rfl, rfl, rfl⟩⟩
instance : TyPl Try.prog 85 [(0, 1), (1, 1), (2, 1), (3, 1), (4, 1), (5, 1)] := ⟨⟨_, Try.underlying85, by kernel_rfl⟩⟩
instance : TySz Try.prog 86 6 := ⟨by kernel_rfl⟩
instance : TyB Try.prog 86 144 := ⟨by kernel_rfl⟩
instance : Agg Try.prog 86 true := ⟨by kernel_rfl⟩
instance : TyZ Try.prog 86 (.agg #[.slice none 0 0, .slice none 0 0, .slice none 0 0, .slice none 0 0, .slice none 0 0, .slice none 0 0]) := ⟨by kernel_rfl⟩
instance : TyF Try.prog 86 0 0 25 := ⟨⟨_, _, Try.underlying86, rfl, rfl, rfl⟩⟩
instance : TyF Try.prog 86 1 1 31 := ⟨⟨_, _, Try.underlying86, rfl, rfl, rfl⟩⟩
instance : TyF Try.prog 86 2 2 83 := ⟨⟨_, _, Try.underlying86, rfl, rfl, rfl⟩⟩
instance : TyF Try.prog 86 3 3 84 := ⟨⟨_, _, Try.underlying86, rfl, rfl, rfl⟩⟩
instance : TyF Try.prog 86 4 4 77 := ⟨⟨_, _, Try.underlying86, rfl, rfl, rfl⟩⟩
instance : TyF Try.prog 86 5 5 72 := ⟨⟨_, _, Try.underlying86, rfl, rfl, rfl⟩⟩
instance : TyPl Try.prog 86 [(0, 1), (1, 1), (2, 1), (3, 1), (4, 1), (5, 1)] := ⟨⟨_, Try.underlying86, by kernel_rfl⟩⟩
instance : TySz Try.prog 87 2 := ⟨by kernel_rfl⟩
instance : TyB Try.prog 87 16 := ⟨by kernel_rfl⟩
instance : Agg Try.prog 87 true := ⟨by kernel_rfl⟩
instance : TyZ Try.prog 87 (.agg #[.int .i64 0, .int .i64 0]) := ⟨by kernel_rfl⟩
instance : TyF Try.prog 87 0 0 3 := ⟨⟨_, _, Try.underlying87, rfl, rfl, rfl⟩⟩
instance : TyF Try.prog 87 1 1 3 := ⟨⟨_, _, Try.underlying87, rfl, rfl, rfl⟩⟩
instance : TyPl Try.prog 87 [(0, 1), (1, 1)] := ⟨⟨_, Try.underlying87, by kernel_rfl⟩⟩
instance : TySz Try.prog 88 2 := ⟨by kernel_rfl⟩
instance : TyB Try.prog 88 16 := ⟨by kernel_rfl⟩
instance : Agg Try.prog 88 true := ⟨by kernel_rfl⟩
instance : TyZ Try.prog 88 (.agg #[.int .i64 0, .int .i64 0]) := ⟨by kernel_rfl⟩
instance : TyF Try.prog 88 0 0 3 := ⟨⟨_, _, Try.underlying88, rfl, rfl, rfl⟩⟩
instance : TyF Try.prog 88 1 1 3 := ⟨⟨_, _, Try.underlying88, rfl, rfl, rfl⟩⟩
instance : TyPl Try.prog 88 [(0, 1), (1, 1)] := ⟨⟨_, Try.underlying88, by kernel_rfl⟩⟩
instance : TySz Try.prog 89 1 := ⟨by kernel_rfl⟩
instance : TyB Try.prog 89 8 := ⟨by kernel_rfl⟩
instance : Agg Try.prog 89 false := ⟨by kernel_rfl⟩
instance : TyZ Try.prog 89 (.nilFunc) := ⟨by kernel_rfl⟩
instance : TySz Try.prog 90 1 := ⟨by kernel_rfl⟩
instance : TyB Try.prog 90 8 := ⟨by kernel_rfl⟩
instance : Agg Try.prog 90 false := ⟨by kernel_rfl⟩
instance : TyZ Try.prog 90 (.nilFunc) := ⟨by kernel_rfl⟩
instance : TySz Try.prog 91 3 := ⟨by kernel_rfl⟩
instance : TyB Try.prog 91 16 := ⟨by kernel_rfl⟩
instance : Agg Try.prog 91 true := ⟨by kernel_rfl⟩
instance : TyZ Try.prog 91 (.agg #[.int .i64 0, .int .i32 0, .int .i32 0]) := ⟨by kernel_rfl⟩
instance : TyF Try.prog 91 0 0 3 := ⟨⟨_, _, Try.underlying91, rfl, rfl, rfl⟩⟩
instance : TyF Try.prog 91 1 1 21 := ⟨⟨_, _, Try.underlying91, rfl, rfl, rfl⟩⟩
instance : TyF Try.prog 91 2 2 21 := ⟨⟨_, _, Try.underlying91, rfl, rfl, rfl⟩⟩
instance : TyPl Try.prog 91 [(0, 1), (1, 1), (2, 1)] := ⟨⟨_, Try.underlying91, by kernel_rfl⟩⟩
instance : TySz Try.prog 92 3 := ⟨by kernel_rfl⟩
instance : TyB Try.prog 92 16 := ⟨by kernel_rfl⟩
instance : Agg Try.prog 92 true := ⟨by kernel_rfl⟩
instance : TyZ Try.prog 92 (.agg #[.int .i64 0, .int .i32 0, .int .i32 0]) := ⟨by kernel_rfl⟩
instance : TyF Try.prog 92 0 0 3 := ⟨⟨_, _, Try.underlying92, rfl, rfl, rfl⟩⟩
instance : TyF Try.prog 92 1 1 21 := ⟨⟨_, _, Try.underlying92, rfl, rfl, rfl⟩⟩
instance : TyF Try.prog 92 2 2 21 := ⟨⟨_, _, Try.underlying92, rfl, rfl, rfl⟩⟩
instance : TyPl Try.prog 92 [(0, 1), (1, 1), (2, 1)] := ⟨⟨_, Try.underlying92, by kernel_rfl⟩⟩
instance : TySz Try.prog 93 1 := ⟨by kernel_rfl⟩
instance : TyB Try.prog 93 8 := ⟨by kernel_rfl⟩
instance : Agg Try.prog 93 false := ⟨by kernel_rfl⟩
instance : TyZ Try.prog 93 (.nilFunc) := ⟨by kernel_rfl⟩
instance : TySz Try.prog 94 2 := ⟨by kernel_rfl⟩
instance : TyB Try.prog 94 16 := ⟨by kernel_rfl⟩
instance : Agg Try.prog 94 true := ⟨by kernel_rfl⟩
instance : TyU Try.prog 94 (.array 2 3) := ⟨Try.underlying94⟩
instance : TyZ Try.prog 94 (.agg #[.int .i64 0, .int .i64 0]) := ⟨by kernel_rfl⟩
instance : TySz Try.prog 95 3 := ⟨by kernel_rfl⟩
instance : TyB Try.prog 95 16 := ⟨by kernel_rfl⟩
instance : Agg Try.prog 95 true := ⟨by kernel_rfl⟩
instance : TyZ Try.prog 95 (.agg #[.int .i64 0, .int .i32 0, .int .i32 0]) := ⟨by kernel_rfl⟩
instance : TyF Try.prog 95 0 0 3 := ⟨⟨_, _, Try.underlying95, rfl, rfl, rfl⟩⟩
instance : TyF Try.prog 95 1 1 21 := ⟨⟨_, _, Try.underlying95, rfl, rfl, rfl⟩⟩
instance : TyF Try.prog 95 2 2 21 := ⟨⟨_, _, Try.underlying95, rfl, rfl, rfl⟩⟩
instance : TyPl Try.prog 95 [(0, 1), (1, 1), (2, 1)] := ⟨⟨_, Try.underlying95, by kernel_rfl⟩⟩
instance : TySz Try.prog 96 3 := ⟨by kernel_rfl⟩
instance : TyB Try.prog 96 16 := ⟨by kernel_rfl⟩
instance : Agg Try.prog 96 true := ⟨by kernel_rfl⟩
instance : TyZ Try.prog 96 (.agg #[.int .i64 0, .int .i32 0, .int .i32 0]) := ⟨by kernel_rfl⟩
instance : TyF Try.prog 96 0 0 3 := ⟨⟨_, _, Try.underlying96, rfl, rfl, rfl⟩⟩
instance : TyF Try.prog 96 1 1 21 := ⟨⟨_, _, Try.underlying96, rfl, rfl, rfl⟩⟩
instance : TyF Try.prog 96 2 2 21 := ⟨⟨_, _, Try.underlying96, rfl, rfl, rfl⟩⟩
instance : TyPl Try.prog 96 [(0, 1), (1, 1), (2, 1)] := ⟨⟨_, Try.underlying96, by kernel_rfl⟩⟩
instance : TySz Try.prog 97 1 := ⟨by kernel_rfl⟩
instance : TyB Try.prog 97 8 := ⟨by kernel_rfl⟩
instance : Agg Try.prog 97 false := ⟨by kernel_rfl⟩
instance : TyZ Try.prog 97 (.nilFunc) := ⟨by kernel_rfl⟩
instance : TySz Try.prog 98 1 := ⟨by kernel_rfl⟩
instance : TyB Try.prog 98 8 := ⟨by kernel_rfl⟩
instance : Agg Try.prog 98 false := ⟨by kernel_rfl⟩
instance : TyZ Try.prog 98 (.nilFunc) := ⟨by kernel_rfl⟩
instance : TySz Try.prog 99 1 := ⟨by kernel_rfl⟩
instance : TyB Try.prog 99 8 := ⟨by kernel_rfl⟩
instance : Agg Try.prog 99 false := ⟨by kernel_rfl⟩
instance : TyZ Try.prog 99 (.nilFunc) := ⟨by kernel_rfl⟩
instance : TySz Try.prog 100 1 := ⟨by kernel_rfl⟩
instance : TyB Try.prog 100 8 := ⟨by kernel_rfl⟩
instance : Agg Try.prog 100 false := ⟨by kernel_rfl⟩
instance : TyZ Try.prog 100 (.nilFunc) := ⟨by kernel_rfl⟩
instance : TySz Try.prog 101 1 := ⟨by kernel_rfl⟩
instance : TyB Try.prog 101 8 := ⟨by kernel_rfl⟩
instance : Agg Try.prog 101 false := ⟨by kernel_rfl⟩
instance : TyZ Try.prog 101 (.nilFunc) := ⟨by kernel_rfl⟩
instance : TySz Try.prog 102 1 := ⟨by kernel_rfl⟩
instance : TyB Try.prog 102 8 := ⟨by kernel_rfl⟩
instance : Agg Try.prog 102 false := ⟨by kernel_rfl⟩
instance : TyZ Try.prog 102 (.nilFunc) := ⟨by kernel_rfl⟩
instance : TySz Try.prog 103 1 := ⟨by kernel_rfl⟩
instance : TyB Try.prog 103 8 := ⟨by kernel_rfl⟩
instance : Agg Try.prog 103 false := ⟨by kernel_rfl⟩
instance : TyZ Try.prog 103 (.nilFunc) := ⟨by kernel_rfl⟩
instance : TySz Try.prog 104 1 := ⟨by kernel_rfl⟩
instance : TyB Try.prog 104 8 := ⟨by kernel_rfl⟩
instance : Agg Try.prog 104 false := ⟨by kernel_rfl⟩
instance : TyZ Try.prog 104 (.nilFunc) := ⟨by kernel_rfl⟩
instance : TySz Try.prog 105 1 := ⟨by kernel_rfl⟩
instance : TyB Try.prog 105 8 := ⟨by kernel_rfl⟩
instance : Agg Try.prog 105 false := ⟨by kernel_rfl⟩
instance : TyZ Try.prog 105 (.nilFunc) := ⟨by kernel_rfl⟩
instance : TySz Try.prog 106 1 := ⟨by kernel_rfl⟩
instance : TyB Try.prog 106 8 := ⟨by kernel_rfl⟩
instance : Agg Try.prog 106 false := ⟨by kernel_rfl⟩
instance : TyU Try.prog 106 (.int .u64) := ⟨Try.underlying106⟩
instance : TyZ Try.prog 106 (.int .u64 0) := ⟨by kernel_rfl⟩
instance : TySz Try.prog 107 1 := ⟨by kernel_rfl⟩
instance : TyB Try.prog 107 8 := ⟨by kernel_rfl⟩
instance : Agg Try.prog 107 false := ⟨by kernel_rfl⟩
instance : TyZ Try.prog 107 (.nilFunc) := ⟨by kernel_rfl⟩
instance : TySz Try.prog 108 1 := ⟨by kernel_rfl⟩
instance : TyB Try.prog 108 8 := ⟨by kernel_rfl⟩
instance : Agg Try.prog 108 false := ⟨by kernel_rfl⟩
instance : TyZ Try.prog 108 (.nilFunc) := ⟨by kernel_rfl⟩
instance : TySz Try.prog 109 1 := ⟨by kernel_rfl⟩
instance : TyB Try.prog 109 8 := ⟨by kernel_rfl⟩
instance : Agg Try.prog 109 false := ⟨by kernel_rfl⟩
instance : TyZ Try.prog 109 (.nilFunc) := ⟨by kernel_rfl⟩
instance : TySz Try.prog 115 1 := ⟨by kernel_rfl⟩
instance : TyB Try.prog 115 8 := ⟨by kernel_rfl⟩
instance : Agg Try.prog 115 false := ⟨by kernel_rfl⟩
instance : TyZ Try.prog 115 (.nilFunc) := ⟨by kernel_rfl⟩
instance : TySz Try.prog 119 1 := ⟨by kernel_rfl⟩
instance : TyB Try.prog 119 8 := ⟨by kernel_rfl⟩
instance : Agg Try.prog 119 false := ⟨by kernel_rfl⟩
instance : TyU Try.prog 119 (.pointer 5) := ⟨Try.underlying119⟩
instance : TyZ Try.prog 119 (.pointer none) := ⟨by kernel_rfl⟩
instance : HasF Try.prog 2 := ⟨by kernel_rfl⟩
instance : HasF Try.prog 3 := ⟨by kernel_rfl⟩
instance : HasF Try.prog 4 := ⟨by kernel_rfl⟩
instance : HasF Try.prog 5 := ⟨by kernel_rfl⟩
instance : HasF Try.prog 6 := ⟨by kernel_rfl⟩
instance : HasF Try.prog 7 := ⟨by kernel_rfl⟩
instance : HasF Try.prog 8 := ⟨by kernel_rfl⟩
instance : HasF Try.prog 9 := ⟨by kernel_rfl⟩
instance : HasF Try.prog 10 := ⟨by kernel_rfl⟩
instance : HasF Try.prog 11 := ⟨by kernel_rfl⟩
instance : HasF Try.prog 12 := ⟨by kernel_rfl⟩
instance : HasF Try.prog 13 := ⟨by kernel_rfl⟩
instance : HasF Try.prog 14 := ⟨by kernel_rfl⟩
instance : HasF Try.prog 15 := ⟨by kernel_rfl⟩
instance : HasF Try.prog 16 := ⟨by kernel_rfl⟩
instance : HasF Try.prog 17 := ⟨by kernel_rfl⟩
instance : HasF Try.prog 18 := ⟨by kernel_rfl⟩
instance : HasF Try.prog 19 := ⟨by kernel_rfl⟩
instance : HasF Try.prog 20 := ⟨by kernel_rfl⟩
instance : HasF Try.prog 21 := ⟨by kernel_rfl⟩
instance : HasF Try.prog 22 := ⟨by kernel_rfl⟩
instance : HasF Try.prog 23 := ⟨by kernel_rfl⟩
instance : HasF Try.prog 24 := ⟨by kernel_rfl⟩
instance : HasF Try.prog 25 := ⟨by kernel_rfl⟩
instance : HasF Try.prog 26 := ⟨by kernel_rfl⟩
instance : HasF Try.prog 27 := ⟨by kernel_rfl⟩
instance : HasF Try.prog 28 := ⟨by kernel_rfl⟩
instance : HasF Try.prog 29 := ⟨by kernel_rfl⟩
instance : HasF Try.prog 30 := ⟨by kernel_rfl⟩
instance : HasF Try.prog 31 := ⟨by kernel_rfl⟩
instance : HasF Try.prog 32 := ⟨by kernel_rfl⟩
instance : HasF Try.prog 33 := ⟨by kernel_rfl⟩
instance : HasF Try.prog 34 := ⟨by kernel_rfl⟩
instance : HasF Try.prog 35 := ⟨by kernel_rfl⟩
instance : HasF Try.prog 36 := ⟨by kernel_rfl⟩
instance : HasF Try.prog 37 := ⟨by kernel_rfl⟩
instance : HasF Try.prog 38 := ⟨by kernel_rfl⟩
instance : HasF Try.prog 39 := ⟨by kernel_rfl⟩
instance : HasF Try.prog 40 := ⟨by kernel_rfl⟩
instance : HasF Try.prog 41 := ⟨by kernel_rfl⟩
instance : HasF Try.prog 42 := ⟨by kernel_rfl⟩
instance : HasF Try.prog 43 := ⟨by kernel_rfl⟩
instance : HasF Try.prog 44 := ⟨by kernel_rfl⟩
instance : HasF Try.prog 45 := ⟨by kernel_rfl⟩
instance : HasF Try.prog 46 := ⟨by kernel_rfl⟩
instance : HasF Try.prog 47 := ⟨by kernel_rfl⟩
instance : HasF Try.prog 48 := ⟨by kernel_rfl⟩
instance : HasF Try.prog 49 := ⟨by kernel_rfl⟩
instance : HasF Try.prog 50 := ⟨by kernel_rfl⟩
instance : HasF Try.prog 51 := ⟨by kernel_rfl⟩
instance : HasF Try.prog 52 := ⟨by kernel_rfl⟩
instance : HasF Try.prog 53 := ⟨by kernel_rfl⟩
instance : HasF Try.prog 54 := ⟨by kernel_rfl⟩
instance : HasF Try.prog 55 := ⟨by kernel_rfl⟩
instance : HasF Try.prog 56 := ⟨by kernel_rfl⟩
instance : HasF Try.prog 57 := ⟨by kernel_rfl⟩
instance : HasF Try.prog 58 := ⟨by kernel_rfl⟩
instance : HasF Try.prog 59 := ⟨by kernel_rfl⟩
instance : HasF Try.prog 60 := ⟨by kernel_rfl⟩
instance : HasF Try.prog 61 := ⟨by kernel_rfl⟩
instance : HasF Try.prog 62 := ⟨by kernel_rfl⟩
instance : HasF Try.prog 63 := ⟨by kernel_rfl⟩
instance : HasF Try.prog 64 := ⟨by kernel_rfl⟩
instance : HasF Try.prog 65 := ⟨by kernel_rfl⟩
instance : HasF Try.prog 66 := ⟨by kernel_rfl⟩
instance : HasF Try.prog 67 := ⟨by kernel_rfl⟩
instance : HasF Try.prog 68 := ⟨by kernel_rfl⟩
instance : HasF Try.prog 69 := ⟨by kernel_rfl⟩
instance : HasF Try.prog 70 := ⟨by kernel_rfl⟩
instance : HasF Try.prog 71 := ⟨by kernel_rfl⟩
structure S_api_Gate where
  f_From : Int
  f_To : Int
  f_Need : Int
  f_Quota : Int
  deriving DecidableEq
instance : Dfl S_api_Gate := ⟨⟨Dfl.d, Dfl.d, Dfl.d, Dfl.d⟩⟩
def e_api_Gate : Enc S_api_Gate := ⟨4, fun x => [.int .i64 x.f_From, .int .i64 x.f_To, .int .u32 x.f_Need, .int .i64 x.f_Quota], fun _ => rfl⟩
instance : EncS e_api_Gate 4 := ⟨rfl⟩
instance (x : S_api_Gate) : EncC e_api_Gate x [.int .i64 x.f_From, .int .i64 x.f_To, .int .u32 x.f_Need, .int .i64 x.f_Quota] := ⟨rfl⟩
instance (yf_From : Int) (yf_To : Int) (yf_Need : Int) (yf_Quota : Int) : EncI e_api_Gate (.agg #[.int .i64 yf_From, .int .i64 yf_To, .int .u32 yf_Need, .int .i64 yf_Quota]) ⟨yf_From, yf_To, yf_Need, yf_Quota⟩ := ⟨rfl⟩
instance : TyE Try.prog 35 e_api_Gate := ⟨(inferInstance : TySz Try.prog 35 4)⟩
instance (H : List HProp) (x : S_api_Gate) (a : Int) : EncU H e_api_Gate x 0 (.int .i64 a) { x with f_From := a } := ⟨fun _ _ => ⟨_, rfl, rfl⟩⟩
instance (H : List HProp) (x : S_api_Gate) (a : Int) : EncU H e_api_Gate x 1 (.int .i64 a) { x with f_To := a } := ⟨fun _ _ => ⟨_, rfl, rfl⟩⟩
instance (H : List HProp) (x : S_api_Gate) (a : Int) : EncU H e_api_Gate x 2 (.int .u32 a) { x with f_Need := a } := ⟨fun _ _ => ⟨_, rfl, rfl⟩⟩
instance (H : List HProp) (x : S_api_Gate) (a : Int) : EncU H e_api_Gate x 3 (.int .i64 a) { x with f_Quota := a } := ⟨fun _ _ => ⟨_, rfl, rfl⟩⟩
structure S_confidantlaw21_Act where
  f_What : Int
  f_N : Int
  f_Label : Int
  f_Privs : Int
  f_V : Int
  f_By : Int
  f_Raw : Int
  deriving DecidableEq
instance : Dfl S_confidantlaw21_Act := ⟨⟨Dfl.d, Dfl.d, Dfl.d, Dfl.d, Dfl.d, Dfl.d, Dfl.d⟩⟩
def e_confidantlaw21_Act : Enc S_confidantlaw21_Act := ⟨7, fun x => [.int .u8 x.f_What, .int .u8 x.f_N, .int .u8 x.f_Label, .int .u8 x.f_Privs, .int .i32 x.f_V, .int .i32 x.f_By, .int .i64 x.f_Raw], fun _ => rfl⟩
instance : EncS e_confidantlaw21_Act 7 := ⟨rfl⟩
instance (x : S_confidantlaw21_Act) : EncC e_confidantlaw21_Act x [.int .u8 x.f_What, .int .u8 x.f_N, .int .u8 x.f_Label, .int .u8 x.f_Privs, .int .i32 x.f_V, .int .i32 x.f_By, .int .i64 x.f_Raw] := ⟨rfl⟩
instance (yf_What : Int) (yf_N : Int) (yf_Label : Int) (yf_Privs : Int) (yf_V : Int) (yf_By : Int) (yf_Raw : Int) : EncI e_confidantlaw21_Act (.agg #[.int .u8 yf_What, .int .u8 yf_N, .int .u8 yf_Label, .int .u8 yf_Privs, .int .i32 yf_V, .int .i32 yf_By, .int .i64 yf_Raw]) ⟨yf_What, yf_N, yf_Label, yf_Privs, yf_V, yf_By, yf_Raw⟩ := ⟨rfl⟩
instance : TyE Try.prog 41 e_confidantlaw21_Act := ⟨(inferInstance : TySz Try.prog 41 7)⟩
instance (H : List HProp) (x : S_confidantlaw21_Act) (a : Int) : EncU H e_confidantlaw21_Act x 0 (.int .u8 a) { x with f_What := a } := ⟨fun _ _ => ⟨_, rfl, rfl⟩⟩
instance (H : List HProp) (x : S_confidantlaw21_Act) (a : Int) : EncU H e_confidantlaw21_Act x 1 (.int .u8 a) { x with f_N := a } := ⟨fun _ _ => ⟨_, rfl, rfl⟩⟩
instance (H : List HProp) (x : S_confidantlaw21_Act) (a : Int) : EncU H e_confidantlaw21_Act x 2 (.int .u8 a) { x with f_Label := a } := ⟨fun _ _ => ⟨_, rfl, rfl⟩⟩
instance (H : List HProp) (x : S_confidantlaw21_Act) (a : Int) : EncU H e_confidantlaw21_Act x 3 (.int .u8 a) { x with f_Privs := a } := ⟨fun _ _ => ⟨_, rfl, rfl⟩⟩
instance (H : List HProp) (x : S_confidantlaw21_Act) (a : Int) : EncU H e_confidantlaw21_Act x 4 (.int .i32 a) { x with f_V := a } := ⟨fun _ _ => ⟨_, rfl, rfl⟩⟩
instance (H : List HProp) (x : S_confidantlaw21_Act) (a : Int) : EncU H e_confidantlaw21_Act x 5 (.int .i32 a) { x with f_By := a } := ⟨fun _ _ => ⟨_, rfl, rfl⟩⟩
instance (H : List HProp) (x : S_confidantlaw21_Act) (a : Int) : EncU H e_confidantlaw21_Act x 6 (.int .i64 a) { x with f_Raw := a } := ⟨fun _ _ => ⟨_, rfl, rfl⟩⟩
structure S_api_Record where
  f_Seq : Int
  f_Gate : Int
  f_To : Int
  f_Value : Int
  f_Round : Int
  f_By : Int
  deriving DecidableEq
instance : Dfl S_api_Record := ⟨⟨Dfl.d, Dfl.d, Dfl.d, Dfl.d, Dfl.d, Dfl.d⟩⟩
def e_api_Record : Enc S_api_Record := ⟨6, fun x => [.int .i64 x.f_Seq, .int .i64 x.f_Gate, .int .i64 x.f_To, .int .i32 x.f_Value, .int .i64 x.f_Round, .int .i32 x.f_By], fun _ => rfl⟩
instance : EncS e_api_Record 6 := ⟨rfl⟩
instance (x : S_api_Record) : EncC e_api_Record x [.int .i64 x.f_Seq, .int .i64 x.f_Gate, .int .i64 x.f_To, .int .i32 x.f_Value, .int .i64 x.f_Round, .int .i32 x.f_By] := ⟨rfl⟩
instance (yf_Seq : Int) (yf_Gate : Int) (yf_To : Int) (yf_Value : Int) (yf_Round : Int) (yf_By : Int) : EncI e_api_Record (.agg #[.int .i64 yf_Seq, .int .i64 yf_Gate, .int .i64 yf_To, .int .i32 yf_Value, .int .i64 yf_Round, .int .i32 yf_By]) ⟨yf_Seq, yf_Gate, yf_To, yf_Value, yf_Round, yf_By⟩ := ⟨rfl⟩
instance : TyE Try.prog 59 e_api_Record := ⟨(inferInstance : TySz Try.prog 59 6)⟩
instance (H : List HProp) (x : S_api_Record) (a : Int) : EncU H e_api_Record x 0 (.int .i64 a) { x with f_Seq := a } := ⟨fun _ _ => ⟨_, rfl, rfl⟩⟩
instance (H : List HProp) (x : S_api_Record) (a : Int) : EncU H e_api_Record x 1 (.int .i64 a) { x with f_Gate := a } := ⟨fun _ _ => ⟨_, rfl, rfl⟩⟩
instance (H : List HProp) (x : S_api_Record) (a : Int) : EncU H e_api_Record x 2 (.int .i64 a) { x with f_To := a } := ⟨fun _ _ => ⟨_, rfl, rfl⟩⟩
instance (H : List HProp) (x : S_api_Record) (a : Int) : EncU H e_api_Record x 3 (.int .i32 a) { x with f_Value := a } := ⟨fun _ _ => ⟨_, rfl, rfl⟩⟩
instance (H : List HProp) (x : S_api_Record) (a : Int) : EncU H e_api_Record x 4 (.int .i64 a) { x with f_Round := a } := ⟨fun _ _ => ⟨_, rfl, rfl⟩⟩
instance (H : List HProp) (x : S_api_Record) (a : Int) : EncU H e_api_Record x 5 (.int .i32 a) { x with f_By := a } := ⟨fun _ _ => ⟨_, rfl, rfl⟩⟩
structure S_lattice_Lattice where
  f_leq : Value
  f_join : Value
  f_meet : Value
  f_top : Int
  f_bottom : Int
instance : Dfl S_lattice_Lattice := ⟨⟨Dfl.d, Dfl.d, Dfl.d, Dfl.d, Dfl.d⟩⟩
def e_lattice_Lattice : Enc S_lattice_Lattice := ⟨5, fun x => [x.f_leq, x.f_join, x.f_meet, .int .i64 x.f_top, .int .i64 x.f_bottom], fun _ => rfl⟩
instance : EncS e_lattice_Lattice 5 := ⟨rfl⟩
instance (x : S_lattice_Lattice) : EncC e_lattice_Lattice x [x.f_leq, x.f_join, x.f_meet, .int .i64 x.f_top, .int .i64 x.f_bottom] := ⟨rfl⟩
instance (yf_leq : Value) (yf_join : Value) (yf_meet : Value) (yf_top : Int) (yf_bottom : Int) : EncI e_lattice_Lattice (.agg #[yf_leq, yf_join, yf_meet, .int .i64 yf_top, .int .i64 yf_bottom]) ⟨yf_leq, yf_join, yf_meet, yf_top, yf_bottom⟩ := ⟨rfl⟩
instance : TyE Try.prog 71 e_lattice_Lattice := ⟨(inferInstance : TySz Try.prog 71 5)⟩
instance (priority := low) (H : List HProp) (x : S_lattice_Lattice) (a : Value) [h : Fl1 H a] : EncU H e_lattice_Lattice x 0 a { x with f_leq := a } := ⟨fun w hw => ⟨[a], (h.f w hw).2, rfl⟩⟩
instance (priority := low) (H : List HProp) (x : S_lattice_Lattice) (a : Value) [h : Fl1 H a] : EncU H e_lattice_Lattice x 1 a { x with f_join := a } := ⟨fun w hw => ⟨[a], (h.f w hw).2, rfl⟩⟩
instance (priority := low) (H : List HProp) (x : S_lattice_Lattice) (a : Value) [h : Fl1 H a] : EncU H e_lattice_Lattice x 2 a { x with f_meet := a } := ⟨fun w hw => ⟨[a], (h.f w hw).2, rfl⟩⟩
instance (H : List HProp) (x : S_lattice_Lattice) (a : Int) : EncU H e_lattice_Lattice x 3 (.int .i64 a) { x with f_top := a } := ⟨fun _ _ => ⟨_, rfl, rfl⟩⟩
instance (H : List HProp) (x : S_lattice_Lattice) (a : Int) : EncU H e_lattice_Lattice x 4 (.int .i64 a) { x with f_bottom := a } := ⟨fun _ _ => ⟨_, rfl, rfl⟩⟩
structure S_gate_Gates where
  f_flows : Value
  f_gates : Value
  f_waits : Value
  f_out : Value
  f_asked : Value
  f_seq : Value
instance : Dfl S_gate_Gates := ⟨⟨Dfl.d, Dfl.d, Dfl.d, Dfl.d, Dfl.d, Dfl.d⟩⟩
def e_gate_Gates : Enc S_gate_Gates := ⟨6, fun x => [x.f_flows, x.f_gates, x.f_waits, x.f_out, x.f_asked, x.f_seq], fun _ => rfl⟩
instance : EncS e_gate_Gates 6 := ⟨rfl⟩
instance (x : S_gate_Gates) : EncC e_gate_Gates x [x.f_flows, x.f_gates, x.f_waits, x.f_out, x.f_asked, x.f_seq] := ⟨rfl⟩
instance (yf_flows : Value) (yf_gates : Value) (yf_waits : Value) (yf_out : Value) (yf_asked : Value) (yf_seq : Value) : EncI e_gate_Gates (.agg #[yf_flows, yf_gates, yf_waits, yf_out, yf_asked, yf_seq]) ⟨yf_flows, yf_gates, yf_waits, yf_out, yf_asked, yf_seq⟩ := ⟨rfl⟩
instance : TyE Try.prog 82 e_gate_Gates := ⟨(inferInstance : TySz Try.prog 82 6)⟩
instance (priority := low) (H : List HProp) (x : S_gate_Gates) (a : Value) [h : Fl1 H a] : EncU H e_gate_Gates x 0 a { x with f_flows := a } := ⟨fun w hw => ⟨[a], (h.f w hw).2, rfl⟩⟩
instance (priority := low) (H : List HProp) (x : S_gate_Gates) (a : Value) [h : Fl1 H a] : EncU H e_gate_Gates x 1 a { x with f_gates := a } := ⟨fun w hw => ⟨[a], (h.f w hw).2, rfl⟩⟩
instance (priority := low) (H : List HProp) (x : S_gate_Gates) (a : Value) [h : Fl1 H a] : EncU H e_gate_Gates x 2 a { x with f_waits := a } := ⟨fun w hw => ⟨[a], (h.f w hw).2, rfl⟩⟩
instance (priority := low) (H : List HProp) (x : S_gate_Gates) (a : Value) [h : Fl1 H a] : EncU H e_gate_Gates x 3 a { x with f_out := a } := ⟨fun w hw => ⟨[a], (h.f w hw).2, rfl⟩⟩
instance (priority := low) (H : List HProp) (x : S_gate_Gates) (a : Value) [h : Fl1 H a] : EncU H e_gate_Gates x 4 a { x with f_asked := a } := ⟨fun w hw => ⟨[a], (h.f w hw).2, rfl⟩⟩
instance (priority := low) (H : List HProp) (x : S_gate_Gates) (a : Value) [h : Fl1 H a] : EncU H e_gate_Gates x 5 a { x with f_seq := a } := ⟨fun w hw => ⟨[a], (h.f w hw).2, rfl⟩⟩
structure S_confidantref21_Gates where
  f_Leq : Value
  f_G : Value
  f_asked : Value
  f_wait : Value
  f_out : Value
  f_seq : Value
instance : Dfl S_confidantref21_Gates := ⟨⟨Dfl.d, Dfl.d, Dfl.d, Dfl.d, Dfl.d, Dfl.d⟩⟩
def e_confidantref21_Gates : Enc S_confidantref21_Gates := ⟨6, fun x => [x.f_Leq, x.f_G, x.f_asked, x.f_wait, x.f_out, x.f_seq], fun _ => rfl⟩
instance : EncS e_confidantref21_Gates 6 := ⟨rfl⟩
instance (x : S_confidantref21_Gates) : EncC e_confidantref21_Gates x [x.f_Leq, x.f_G, x.f_asked, x.f_wait, x.f_out, x.f_seq] := ⟨rfl⟩
instance (yf_Leq : Value) (yf_G : Value) (yf_asked : Value) (yf_wait : Value) (yf_out : Value) (yf_seq : Value) : EncI e_confidantref21_Gates (.agg #[yf_Leq, yf_G, yf_asked, yf_wait, yf_out, yf_seq]) ⟨yf_Leq, yf_G, yf_asked, yf_wait, yf_out, yf_seq⟩ := ⟨rfl⟩
instance : TyE Try.prog 86 e_confidantref21_Gates := ⟨(inferInstance : TySz Try.prog 86 6)⟩
instance (priority := low) (H : List HProp) (x : S_confidantref21_Gates) (a : Value) [h : Fl1 H a] : EncU H e_confidantref21_Gates x 0 a { x with f_Leq := a } := ⟨fun w hw => ⟨[a], (h.f w hw).2, rfl⟩⟩
instance (priority := low) (H : List HProp) (x : S_confidantref21_Gates) (a : Value) [h : Fl1 H a] : EncU H e_confidantref21_Gates x 1 a { x with f_G := a } := ⟨fun w hw => ⟨[a], (h.f w hw).2, rfl⟩⟩
instance (priority := low) (H : List HProp) (x : S_confidantref21_Gates) (a : Value) [h : Fl1 H a] : EncU H e_confidantref21_Gates x 2 a { x with f_asked := a } := ⟨fun w hw => ⟨[a], (h.f w hw).2, rfl⟩⟩
instance (priority := low) (H : List HProp) (x : S_confidantref21_Gates) (a : Value) [h : Fl1 H a] : EncU H e_confidantref21_Gates x 3 a { x with f_wait := a } := ⟨fun w hw => ⟨[a], (h.f w hw).2, rfl⟩⟩
instance (priority := low) (H : List HProp) (x : S_confidantref21_Gates) (a : Value) [h : Fl1 H a] : EncU H e_confidantref21_Gates x 4 a { x with f_out := a } := ⟨fun w hw => ⟨[a], (h.f w hw).2, rfl⟩⟩
instance (priority := low) (H : List HProp) (x : S_confidantref21_Gates) (a : Value) [h : Fl1 H a] : EncU H e_confidantref21_Gates x 5 a { x with f_seq := a } := ⟨fun w hw => ⟨[a], (h.f w hw).2, rfl⟩⟩
structure S_gate_use where
  f_gate : Int
  f_label : Int
  deriving DecidableEq
instance : Dfl S_gate_use := ⟨⟨Dfl.d, Dfl.d⟩⟩
def e_gate_use : Enc S_gate_use := ⟨2, fun x => [.int .i64 x.f_gate, .int .i64 x.f_label], fun _ => rfl⟩
instance : EncS e_gate_use 2 := ⟨rfl⟩
instance (x : S_gate_use) : EncC e_gate_use x [.int .i64 x.f_gate, .int .i64 x.f_label] := ⟨rfl⟩
instance (yf_gate : Int) (yf_label : Int) : EncI e_gate_use (.agg #[.int .i64 yf_gate, .int .i64 yf_label]) ⟨yf_gate, yf_label⟩ := ⟨rfl⟩
instance : TyE Try.prog 88 e_gate_use := ⟨(inferInstance : TySz Try.prog 88 2)⟩
instance (H : List HProp) (x : S_gate_use) (a : Int) : EncU H e_gate_use x 0 (.int .i64 a) { x with f_gate := a } := ⟨fun _ _ => ⟨_, rfl, rfl⟩⟩
instance (H : List HProp) (x : S_gate_use) (a : Int) : EncU H e_gate_use x 1 (.int .i64 a) { x with f_label := a } := ⟨fun _ _ => ⟨_, rfl, rfl⟩⟩
structure S_gate_wait where
  f_gate : Int
  f_v : Int
  f_by : Int
  deriving DecidableEq
instance : Dfl S_gate_wait := ⟨⟨Dfl.d, Dfl.d, Dfl.d⟩⟩
def e_gate_wait : Enc S_gate_wait := ⟨3, fun x => [.int .i64 x.f_gate, .int .i32 x.f_v, .int .i32 x.f_by], fun _ => rfl⟩
instance : EncS e_gate_wait 3 := ⟨rfl⟩
instance (x : S_gate_wait) : EncC e_gate_wait x [.int .i64 x.f_gate, .int .i32 x.f_v, .int .i32 x.f_by] := ⟨rfl⟩
instance (yf_gate : Int) (yf_v : Int) (yf_by : Int) : EncI e_gate_wait (.agg #[.int .i64 yf_gate, .int .i32 yf_v, .int .i32 yf_by]) ⟨yf_gate, yf_v, yf_by⟩ := ⟨rfl⟩
instance : TyE Try.prog 92 e_gate_wait := ⟨(inferInstance : TySz Try.prog 92 3)⟩
instance (H : List HProp) (x : S_gate_wait) (a : Int) : EncU H e_gate_wait x 0 (.int .i64 a) { x with f_gate := a } := ⟨fun _ _ => ⟨_, rfl, rfl⟩⟩
instance (H : List HProp) (x : S_gate_wait) (a : Int) : EncU H e_gate_wait x 1 (.int .i32 a) { x with f_v := a } := ⟨fun _ _ => ⟨_, rfl, rfl⟩⟩
instance (H : List HProp) (x : S_gate_wait) (a : Int) : EncU H e_gate_wait x 2 (.int .i32 a) { x with f_by := a } := ⟨fun _ _ => ⟨_, rfl, rfl⟩⟩
structure S_confidantref21_waits where
  f_gate : Int
  f_v : Int
  f_by : Int
  deriving DecidableEq
instance : Dfl S_confidantref21_waits := ⟨⟨Dfl.d, Dfl.d, Dfl.d⟩⟩
def e_confidantref21_waits : Enc S_confidantref21_waits := ⟨3, fun x => [.int .i64 x.f_gate, .int .i32 x.f_v, .int .i32 x.f_by], fun _ => rfl⟩
instance : EncS e_confidantref21_waits 3 := ⟨rfl⟩
instance (x : S_confidantref21_waits) : EncC e_confidantref21_waits x [.int .i64 x.f_gate, .int .i32 x.f_v, .int .i32 x.f_by] := ⟨rfl⟩
instance (yf_gate : Int) (yf_v : Int) (yf_by : Int) : EncI e_confidantref21_waits (.agg #[.int .i64 yf_gate, .int .i32 yf_v, .int .i32 yf_by]) ⟨yf_gate, yf_v, yf_by⟩ := ⟨rfl⟩
instance : TyE Try.prog 96 e_confidantref21_waits := ⟨(inferInstance : TySz Try.prog 96 3)⟩
instance (H : List HProp) (x : S_confidantref21_waits) (a : Int) : EncU H e_confidantref21_waits x 0 (.int .i64 a) { x with f_gate := a } := ⟨fun _ _ => ⟨_, rfl, rfl⟩⟩
instance (H : List HProp) (x : S_confidantref21_waits) (a : Int) : EncU H e_confidantref21_waits x 1 (.int .i32 a) { x with f_v := a } := ⟨fun _ _ => ⟨_, rfl, rfl⟩⟩
instance (H : List HProp) (x : S_confidantref21_waits) (a : Int) : EncU H e_confidantref21_waits x 2 (.int .i32 a) { x with f_by := a } := ⟨fun _ _ => ⟨_, rfl, rfl⟩⟩
instance : TyE Try.prog 1 eVal := ⟨(inferInstance : TySz Try.prog 1 1)⟩
instance : TyE Try.prog 2 (eInt .i64) := ⟨(inferInstance : TySz Try.prog 2 1)⟩
instance : TyE Try.prog 3 (eInt .i64) := ⟨(inferInstance : TySz Try.prog 3 1)⟩
instance : TyE Try.prog 4 eBool := ⟨(inferInstance : TySz Try.prog 4 1)⟩
instance : TyE Try.prog 5 (eInt .u8) := ⟨(inferInstance : TySz Try.prog 5 1)⟩
instance : TyE Try.prog 12 (eInt .u64) := ⟨(inferInstance : TySz Try.prog 12 1)⟩
instance : TyE Try.prog 21 (eInt .i32) := ⟨(inferInstance : TySz Try.prog 21 1)⟩
instance : TyE Try.prog 22 eVal := ⟨(inferInstance : TySz Try.prog 22 1)⟩
instance : TyE Try.prog 23 eVal := ⟨(inferInstance : TySz Try.prog 23 1)⟩
instance : TyE Try.prog 24 eVal := ⟨(inferInstance : TySz Try.prog 24 1)⟩
instance : TyE Try.prog 25 eVal := ⟨(inferInstance : TySz Try.prog 25 1)⟩
instance : TyE Try.prog 26 eVal := ⟨(inferInstance : TySz Try.prog 26 1)⟩
instance : TyE Try.prog 27 eVal := ⟨(inferInstance : TySz Try.prog 27 1)⟩
instance : TyE Try.prog 28 (eInt .i64) := ⟨(inferInstance : TySz Try.prog 28 1)⟩
instance : TyE Try.prog 30 eVal := ⟨(inferInstance : TySz Try.prog 30 1)⟩
instance : TyE Try.prog 31 eVal := ⟨(inferInstance : TySz Try.prog 31 1)⟩
instance : TyE Try.prog 33 (eInt .u32) := ⟨(inferInstance : TySz Try.prog 33 1)⟩
instance : TyE Try.prog 36 eVal := ⟨(inferInstance : TySz Try.prog 36 1)⟩
instance : TyE Try.prog 37 eVal := ⟨(inferInstance : TySz Try.prog 37 1)⟩
instance : TyE Try.prog 38 eVal := ⟨(inferInstance : TySz Try.prog 38 1)⟩
instance : TyE Try.prog 39 eVal := ⟨(inferInstance : TySz Try.prog 39 1)⟩
instance : TyE Try.prog 42 eVal := ⟨(inferInstance : TySz Try.prog 42 1)⟩
instance : TyE Try.prog 43 eVal := ⟨(inferInstance : TySz Try.prog 43 1)⟩
instance : TyE Try.prog 44 eVal := ⟨(inferInstance : TySz Try.prog 44 1)⟩
instance : TyE Try.prog 45 eVal := ⟨(inferInstance : TySz Try.prog 45 1)⟩
instance : TyE Try.prog 47 eVal := ⟨(inferInstance : TySz Try.prog 47 1)⟩
instance : TyE Try.prog 49 eVal := ⟨(inferInstance : TySz Try.prog 49 1)⟩
instance : TyE Try.prog 50 eVal := ⟨(inferInstance : TySz Try.prog 50 1)⟩
instance : TyE Try.prog 51 eVal := ⟨(inferInstance : TySz Try.prog 51 1)⟩
instance : TyE Try.prog 52 eVal := ⟨(inferInstance : TySz Try.prog 52 1)⟩
instance : TyE Try.prog 53 eVal := ⟨(inferInstance : TySz Try.prog 53 1)⟩
instance : TyE Try.prog 54 eVal := ⟨(inferInstance : TySz Try.prog 54 1)⟩
instance : TyE Try.prog 55 eVal := ⟨(inferInstance : TySz Try.prog 55 1)⟩
instance : TyE Try.prog 56 eVal := ⟨(inferInstance : TySz Try.prog 56 1)⟩
instance : TyE Try.prog 57 eVal := ⟨(inferInstance : TySz Try.prog 57 1)⟩
instance : TyE Try.prog 60 eVal := ⟨(inferInstance : TySz Try.prog 60 1)⟩
instance : TyE Try.prog 61 eVal := ⟨(inferInstance : TySz Try.prog 61 1)⟩
instance : TyE Try.prog 64 eVal := ⟨(inferInstance : TySz Try.prog 64 1)⟩
instance : TyE Try.prog 67 eVal := ⟨(inferInstance : TySz Try.prog 67 1)⟩
instance : TyE Try.prog 68 eVal := ⟨(inferInstance : TySz Try.prog 68 1)⟩
instance : TyE Try.prog 69 eVal := ⟨(inferInstance : TySz Try.prog 69 1)⟩
instance : TyE Try.prog 72 eVal := ⟨(inferInstance : TySz Try.prog 72 1)⟩
instance : TyE Try.prog 73 eVal := ⟨(inferInstance : TySz Try.prog 73 1)⟩
instance : TyE Try.prog 74 eVal := ⟨(inferInstance : TySz Try.prog 74 1)⟩
instance : TyE Try.prog 75 eVal := ⟨(inferInstance : TySz Try.prog 75 1)⟩
instance : TyE Try.prog 76 eVal := ⟨(inferInstance : TySz Try.prog 76 1)⟩
instance : TyE Try.prog 77 eVal := ⟨(inferInstance : TySz Try.prog 77 1)⟩
instance : TyE Try.prog 78 eVal := ⟨(inferInstance : TySz Try.prog 78 1)⟩
instance : TyE Try.prog 79 eVal := ⟨(inferInstance : TySz Try.prog 79 1)⟩
instance : TyE Try.prog 80 eVal := ⟨(inferInstance : TySz Try.prog 80 1)⟩
instance : TyE Try.prog 83 eVal := ⟨(inferInstance : TySz Try.prog 83 1)⟩
instance : TyE Try.prog 84 eVal := ⟨(inferInstance : TySz Try.prog 84 1)⟩
instance : TyE Try.prog 89 eVal := ⟨(inferInstance : TySz Try.prog 89 1)⟩
instance : TyE Try.prog 90 eVal := ⟨(inferInstance : TySz Try.prog 90 1)⟩
instance : TyE Try.prog 93 eVal := ⟨(inferInstance : TySz Try.prog 93 1)⟩
instance : TyE Try.prog 97 eVal := ⟨(inferInstance : TySz Try.prog 97 1)⟩
instance : TyE Try.prog 98 eVal := ⟨(inferInstance : TySz Try.prog 98 1)⟩
instance : TyE Try.prog 99 eVal := ⟨(inferInstance : TySz Try.prog 99 1)⟩
instance : TyE Try.prog 100 eVal := ⟨(inferInstance : TySz Try.prog 100 1)⟩
instance : TyE Try.prog 101 eVal := ⟨(inferInstance : TySz Try.prog 101 1)⟩
instance : TyE Try.prog 102 eVal := ⟨(inferInstance : TySz Try.prog 102 1)⟩
instance : TyE Try.prog 103 eVal := ⟨(inferInstance : TySz Try.prog 103 1)⟩
instance : TyE Try.prog 104 eVal := ⟨(inferInstance : TySz Try.prog 104 1)⟩
instance : TyE Try.prog 105 eVal := ⟨(inferInstance : TySz Try.prog 105 1)⟩
instance : TyE Try.prog 106 (eInt .u64) := ⟨(inferInstance : TySz Try.prog 106 1)⟩
instance : TyE Try.prog 107 eVal := ⟨(inferInstance : TySz Try.prog 107 1)⟩
instance : TyE Try.prog 108 eVal := ⟨(inferInstance : TySz Try.prog 108 1)⟩
instance : TyE Try.prog 109 eVal := ⟨(inferInstance : TySz Try.prog 109 1)⟩
instance : TyE Try.prog 115 eVal := ⟨(inferInstance : TySz Try.prog 115 1)⟩
instance : TyE Try.prog 119 eVal := ⟨(inferInstance : TySz Try.prog 119 1)⟩
structure S_A4_uint8 where
  e0 : Int
  e1 : Int
  e2 : Int
  e3 : Int
  deriving DecidableEq
instance : Dfl S_A4_uint8 := ⟨⟨Dfl.d, Dfl.d, Dfl.d, Dfl.d⟩⟩
def e_A4_uint8 : Enc S_A4_uint8 := ⟨4, fun x => [.int .u8 x.e0, .int .u8 x.e1, .int .u8 x.e2, .int .u8 x.e3], fun _ => rfl⟩
instance : EncS e_A4_uint8 4 := ⟨rfl⟩
instance (x : S_A4_uint8) : EncC e_A4_uint8 x [.int .u8 x.e0, .int .u8 x.e1, .int .u8 x.e2, .int .u8 x.e3] := ⟨rfl⟩
instance (y0 : Int) (y1 : Int) (y2 : Int) (y3 : Int) : EncI e_A4_uint8 (.agg #[.int .u8 y0, .int .u8 y1, .int .u8 y2, .int .u8 y3]) ⟨y0, y1, y2, y3⟩ := ⟨rfl⟩
instance : TyE Try.prog 32 e_A4_uint8 := ⟨(inferInstance : TySz Try.prog 32 4)⟩
instance : EqG Try.prog 32 := ⟨by kernel_rfl, by kernel_rfl⟩
instance : EqT Try.prog 32 (kS e_A4_uint8) 2 := ⟨fun d hd x y w => by
  obtain ⟨d, rfl⟩ : ∃ e, d = e + 1 := ⟨d - 1, by omega⟩
  refine (eqArray Try.underlying32 inferInstance (bs := [decide (x.e0 = y.e0), decide (x.e1 = y.e1), decide (x.e2 = y.e2), decide (x.e3 = y.e3)]) ?_).trans ?_
  · exact (EqAs.cons (t := 5) (V := (kI .u8)) (a := x.e0) (b := y.e0) (by omega) ((inferInstance : LiesL Try.prog 5 [.int .u8 x.e0, .int .u8 x.e1, .int .u8 x.e2, .int .u8 x.e3] 0 (.int .u8 x.e0)).lies) ((inferInstance : LiesL Try.prog 5 [.int .u8 y.e0, .int .u8 y.e1, .int .u8 y.e2, .int .u8 y.e3] 0 (.int .u8 y.e0)).lies) (EqAs.cons (t := 5) (V := (kI .u8)) (a := x.e1) (b := y.e1) (by omega) ((inferInstance : LiesL Try.prog 5 [.int .u8 x.e0, .int .u8 x.e1, .int .u8 x.e2, .int .u8 x.e3] 1 (.int .u8 x.e1)).lies) ((inferInstance : LiesL Try.prog 5 [.int .u8 y.e0, .int .u8 y.e1, .int .u8 y.e2, .int .u8 y.e3] 1 (.int .u8 y.e1)).lies) (EqAs.cons (t := 5) (V := (kI .u8)) (a := x.e2) (b := y.e2) (by omega) ((inferInstance : LiesL Try.prog 5 [.int .u8 x.e0, .int .u8 x.e1, .int .u8 x.e2, .int .u8 x.e3] 2 (.int .u8 x.e2)).lies) ((inferInstance : LiesL Try.prog 5 [.int .u8 y.e0, .int .u8 y.e1, .int .u8 y.e2, .int .u8 y.e3] 2 (.int .u8 y.e2)).lies) (EqAs.cons (t := 5) (V := (kI .u8)) (a := x.e3) (b := y.e3) (by omega) ((inferInstance : LiesL Try.prog 5 [.int .u8 x.e0, .int .u8 x.e1, .int .u8 x.e2, .int .u8 x.e3] 3 (.int .u8 x.e3)).lies) ((inferInstance : LiesL Try.prog 5 [.int .u8 y.e0, .int .u8 y.e1, .int .u8 y.e2, .int .u8 y.e3] 3 (.int .u8 y.e3)).lies) trivial))))
  · cases x; cases y; simp only [Result.ok.injEq, and_true]; rw [Bool.eq_iff_iff]; simp⟩
def ok_A4_uint8 : World → S_A4_uint8 → Prop := fun w x => okI .u8 w x.e0 ∧ okI .u8 w x.e1 ∧ okI .u8 w x.e2 ∧ okI .u8 w x.e3
instance : Rd Try.prog 32 e_A4_uint8 ok_A4_uint8 := ⟨fun {H enc w fuel cs x} h => by
  obtain ⟨xs, m, _, _, hl, hlen, hf⟩ := DataW.trod_array Try.underlying32 h
  rw [cellsOf_of (n := 4)] at hl
  match cs, hl with
  | [c0, c1, c2, c3], _ =>
    obtain ⟨y0, e0, k0, l0⟩ := Rd.elt (P := Try.prog) (t' := 5) hf hlen 0 (by omega) 0 rfl
    replace e0 : [c0] = [.int .u8 y0] := e0
    replace l0 : ∀ c, c ∈ [c0] → fl c = true := l0
    obtain ⟨y1, e1, k1, l1⟩ := Rd.elt (P := Try.prog) (t' := 5) hf hlen 1 (by omega) 1 rfl
    replace e1 : [c1] = [.int .u8 y1] := e1
    replace l1 : ∀ c, c ∈ [c1] → fl c = true := l1
    obtain ⟨y2, e2, k2, l2⟩ := Rd.elt (P := Try.prog) (t' := 5) hf hlen 2 (by omega) 2 rfl
    replace e2 : [c2] = [.int .u8 y2] := e2
    replace l2 : ∀ c, c ∈ [c2] → fl c = true := l2
    obtain ⟨y3, e3, k3, l3⟩ := Rd.elt (P := Try.prog) (t' := 5) hf hlen 3 (by omega) 3 rfl
    replace e3 : [c3] = [.int .u8 y3] := e3
    replace l3 : ∀ c, c ∈ [c3] → fl c = true := l3
    have q0 := (List.cons.inj e0).1.symm; subst q0
    have q1 := (List.cons.inj e1).1.symm; subst q1
    have q2 := (List.cons.inj e2).1.symm; subst q2
    have q3 := (List.cons.inj e3).1.symm; subst q3
    refine ⟨⟨y0, y1, y2, y3⟩, rfl, ⟨k0, k1, k2, k3⟩, fun c hc => ?_⟩
    simp only [List.mem_cons, List.not_mem_nil, or_false] at hc
    rcases hc with rfl | rfl | rfl | rfl
    · exact l0 _ (by simp)
    · exact l1 _ (by simp)
    · exact l2 _ (by simp)
    · exact l3 _ (by simp)⟩
structure S_A3_int where
  e0 : Int
  e1 : Int
  e2 : Int
  deriving DecidableEq
instance : Dfl S_A3_int := ⟨⟨Dfl.d, Dfl.d, Dfl.d⟩⟩
def e_A3_int : Enc S_A3_int := ⟨3, fun x => [.int .i64 x.e0, .int .i64 x.e1, .int .i64 x.e2], fun _ => rfl⟩
instance : EncS e_A3_int 3 := ⟨rfl⟩
instance (x : S_A3_int) : EncC e_A3_int x [.int .i64 x.e0, .int .i64 x.e1, .int .i64 x.e2] := ⟨rfl⟩
instance (y0 : Int) (y1 : Int) (y2 : Int) : EncI e_A3_int (.agg #[.int .i64 y0, .int .i64 y1, .int .i64 y2]) ⟨y0, y1, y2⟩ := ⟨rfl⟩
instance : TyE Try.prog 63 e_A3_int := ⟨(inferInstance : TySz Try.prog 63 3)⟩
instance : EqG Try.prog 63 := ⟨by kernel_rfl, by kernel_rfl⟩
instance : EqT Try.prog 63 (kS e_A3_int) 2 := ⟨fun d hd x y w => by
  obtain ⟨d, rfl⟩ : ∃ e, d = e + 1 := ⟨d - 1, by omega⟩
  refine (eqArray Try.underlying63 inferInstance (bs := [decide (x.e0 = y.e0), decide (x.e1 = y.e1), decide (x.e2 = y.e2)]) ?_).trans ?_
  · exact (EqAs.cons (t := 3) (V := (kI .i64)) (a := x.e0) (b := y.e0) (by omega) ((inferInstance : LiesL Try.prog 3 [.int .i64 x.e0, .int .i64 x.e1, .int .i64 x.e2] 0 (.int .i64 x.e0)).lies) ((inferInstance : LiesL Try.prog 3 [.int .i64 y.e0, .int .i64 y.e1, .int .i64 y.e2] 0 (.int .i64 y.e0)).lies) (EqAs.cons (t := 3) (V := (kI .i64)) (a := x.e1) (b := y.e1) (by omega) ((inferInstance : LiesL Try.prog 3 [.int .i64 x.e0, .int .i64 x.e1, .int .i64 x.e2] 1 (.int .i64 x.e1)).lies) ((inferInstance : LiesL Try.prog 3 [.int .i64 y.e0, .int .i64 y.e1, .int .i64 y.e2] 1 (.int .i64 y.e1)).lies) (EqAs.cons (t := 3) (V := (kI .i64)) (a := x.e2) (b := y.e2) (by omega) ((inferInstance : LiesL Try.prog 3 [.int .i64 x.e0, .int .i64 x.e1, .int .i64 x.e2] 2 (.int .i64 x.e2)).lies) ((inferInstance : LiesL Try.prog 3 [.int .i64 y.e0, .int .i64 y.e1, .int .i64 y.e2] 2 (.int .i64 y.e2)).lies) trivial)))
  · cases x; cases y; simp only [Result.ok.injEq, and_true]; rw [Bool.eq_iff_iff]; simp⟩
def ok_A3_int : World → S_A3_int → Prop := fun w x => okI .i64 w x.e0 ∧ okI .i64 w x.e1 ∧ okI .i64 w x.e2
instance : Rd Try.prog 63 e_A3_int ok_A3_int := ⟨fun {H enc w fuel cs x} h => by
  obtain ⟨xs, m, _, _, hl, hlen, hf⟩ := DataW.trod_array Try.underlying63 h
  rw [cellsOf_of (n := 3)] at hl
  match cs, hl with
  | [c0, c1, c2], _ =>
    obtain ⟨y0, e0, k0, l0⟩ := Rd.elt (P := Try.prog) (t' := 3) hf hlen 0 (by omega) 0 rfl
    replace e0 : [c0] = [.int .i64 y0] := e0
    replace l0 : ∀ c, c ∈ [c0] → fl c = true := l0
    obtain ⟨y1, e1, k1, l1⟩ := Rd.elt (P := Try.prog) (t' := 3) hf hlen 1 (by omega) 1 rfl
    replace e1 : [c1] = [.int .i64 y1] := e1
    replace l1 : ∀ c, c ∈ [c1] → fl c = true := l1
    obtain ⟨y2, e2, k2, l2⟩ := Rd.elt (P := Try.prog) (t' := 3) hf hlen 2 (by omega) 2 rfl
    replace e2 : [c2] = [.int .i64 y2] := e2
    replace l2 : ∀ c, c ∈ [c2] → fl c = true := l2
    have q0 := (List.cons.inj e0).1.symm; subst q0
    have q1 := (List.cons.inj e1).1.symm; subst q1
    have q2 := (List.cons.inj e2).1.symm; subst q2
    refine ⟨⟨y0, y1, y2⟩, rfl, ⟨k0, k1, k2⟩, fun c hc => ?_⟩
    simp only [List.mem_cons, List.not_mem_nil, or_false] at hc
    rcases hc with rfl | rfl | rfl
    · exact l0 _ (by simp)
    · exact l1 _ (by simp)
    · exact l2 _ (by simp)⟩
structure S_A4_int where
  e0 : Int
  e1 : Int
  e2 : Int
  e3 : Int
  deriving DecidableEq
instance : Dfl S_A4_int := ⟨⟨Dfl.d, Dfl.d, Dfl.d, Dfl.d⟩⟩
def e_A4_int : Enc S_A4_int := ⟨4, fun x => [.int .i64 x.e0, .int .i64 x.e1, .int .i64 x.e2, .int .i64 x.e3], fun _ => rfl⟩
instance : EncS e_A4_int 4 := ⟨rfl⟩
instance (x : S_A4_int) : EncC e_A4_int x [.int .i64 x.e0, .int .i64 x.e1, .int .i64 x.e2, .int .i64 x.e3] := ⟨rfl⟩
instance (y0 : Int) (y1 : Int) (y2 : Int) (y3 : Int) : EncI e_A4_int (.agg #[.int .i64 y0, .int .i64 y1, .int .i64 y2, .int .i64 y3]) ⟨y0, y1, y2, y3⟩ := ⟨rfl⟩
instance : TyE Try.prog 65 e_A4_int := ⟨(inferInstance : TySz Try.prog 65 4)⟩
instance : EqG Try.prog 65 := ⟨by kernel_rfl, by kernel_rfl⟩
instance : EqT Try.prog 65 (kS e_A4_int) 2 := ⟨fun d hd x y w => by
  obtain ⟨d, rfl⟩ : ∃ e, d = e + 1 := ⟨d - 1, by omega⟩
  refine (eqArray Try.underlying65 inferInstance (bs := [decide (x.e0 = y.e0), decide (x.e1 = y.e1), decide (x.e2 = y.e2), decide (x.e3 = y.e3)]) ?_).trans ?_
  · exact (EqAs.cons (t := 3) (V := (kI .i64)) (a := x.e0) (b := y.e0) (by omega) ((inferInstance : LiesL Try.prog 3 [.int .i64 x.e0, .int .i64 x.e1, .int .i64 x.e2, .int .i64 x.e3] 0 (.int .i64 x.e0)).lies) ((inferInstance : LiesL Try.prog 3 [.int .i64 y.e0, .int .i64 y.e1, .int .i64 y.e2, .int .i64 y.e3] 0 (.int .i64 y.e0)).lies) (EqAs.cons (t := 3) (V := (kI .i64)) (a := x.e1) (b := y.e1) (by omega) ((inferInstance : LiesL Try.prog 3 [.int .i64 x.e0, .int .i64 x.e1, .int .i64 x.e2, .int .i64 x.e3] 1 (.int .i64 x.e1)).lies) ((inferInstance : LiesL Try.prog 3 [.int .i64 y.e0, .int .i64 y.e1, .int .i64 y.e2, .int .i64 y.e3] 1 (.int .i64 y.e1)).lies) (EqAs.cons (t := 3) (V := (kI .i64)) (a := x.e2) (b := y.e2) (by omega) ((inferInstance : LiesL Try.prog 3 [.int .i64 x.e0, .int .i64 x.e1, .int .i64 x.e2, .int .i64 x.e3] 2 (.int .i64 x.e2)).lies) ((inferInstance : LiesL Try.prog 3 [.int .i64 y.e0, .int .i64 y.e1, .int .i64 y.e2, .int .i64 y.e3] 2 (.int .i64 y.e2)).lies) (EqAs.cons (t := 3) (V := (kI .i64)) (a := x.e3) (b := y.e3) (by omega) ((inferInstance : LiesL Try.prog 3 [.int .i64 x.e0, .int .i64 x.e1, .int .i64 x.e2, .int .i64 x.e3] 3 (.int .i64 x.e3)).lies) ((inferInstance : LiesL Try.prog 3 [.int .i64 y.e0, .int .i64 y.e1, .int .i64 y.e2, .int .i64 y.e3] 3 (.int .i64 y.e3)).lies) trivial))))
  · cases x; cases y; simp only [Result.ok.injEq, and_true]; rw [Bool.eq_iff_iff]; simp⟩
def ok_A4_int : World → S_A4_int → Prop := fun w x => okI .i64 w x.e0 ∧ okI .i64 w x.e1 ∧ okI .i64 w x.e2 ∧ okI .i64 w x.e3
instance : Rd Try.prog 65 e_A4_int ok_A4_int := ⟨fun {H enc w fuel cs x} h => by
  obtain ⟨xs, m, _, _, hl, hlen, hf⟩ := DataW.trod_array Try.underlying65 h
  rw [cellsOf_of (n := 4)] at hl
  match cs, hl with
  | [c0, c1, c2, c3], _ =>
    obtain ⟨y0, e0, k0, l0⟩ := Rd.elt (P := Try.prog) (t' := 3) hf hlen 0 (by omega) 0 rfl
    replace e0 : [c0] = [.int .i64 y0] := e0
    replace l0 : ∀ c, c ∈ [c0] → fl c = true := l0
    obtain ⟨y1, e1, k1, l1⟩ := Rd.elt (P := Try.prog) (t' := 3) hf hlen 1 (by omega) 1 rfl
    replace e1 : [c1] = [.int .i64 y1] := e1
    replace l1 : ∀ c, c ∈ [c1] → fl c = true := l1
    obtain ⟨y2, e2, k2, l2⟩ := Rd.elt (P := Try.prog) (t' := 3) hf hlen 2 (by omega) 2 rfl
    replace e2 : [c2] = [.int .i64 y2] := e2
    replace l2 : ∀ c, c ∈ [c2] → fl c = true := l2
    obtain ⟨y3, e3, k3, l3⟩ := Rd.elt (P := Try.prog) (t' := 3) hf hlen 3 (by omega) 3 rfl
    replace e3 : [c3] = [.int .i64 y3] := e3
    replace l3 : ∀ c, c ∈ [c3] → fl c = true := l3
    have q0 := (List.cons.inj e0).1.symm; subst q0
    have q1 := (List.cons.inj e1).1.symm; subst q1
    have q2 := (List.cons.inj e2).1.symm; subst q2
    have q3 := (List.cons.inj e3).1.symm; subst q3
    refine ⟨⟨y0, y1, y2, y3⟩, rfl, ⟨k0, k1, k2, k3⟩, fun c hc => ?_⟩
    simp only [List.mem_cons, List.not_mem_nil, or_false] at hc
    rcases hc with rfl | rfl | rfl | rfl
    · exact l0 _ (by simp)
    · exact l1 _ (by simp)
    · exact l2 _ (by simp)
    · exact l3 _ (by simp)⟩
structure S_A2_int where
  e0 : Int
  e1 : Int
  deriving DecidableEq
instance : Dfl S_A2_int := ⟨⟨Dfl.d, Dfl.d⟩⟩
def e_A2_int : Enc S_A2_int := ⟨2, fun x => [.int .i64 x.e0, .int .i64 x.e1], fun _ => rfl⟩
instance : EncS e_A2_int 2 := ⟨rfl⟩
instance (x : S_A2_int) : EncC e_A2_int x [.int .i64 x.e0, .int .i64 x.e1] := ⟨rfl⟩
instance (y0 : Int) (y1 : Int) : EncI e_A2_int (.agg #[.int .i64 y0, .int .i64 y1]) ⟨y0, y1⟩ := ⟨rfl⟩
instance : TyE Try.prog 94 e_A2_int := ⟨(inferInstance : TySz Try.prog 94 2)⟩
instance : EqG Try.prog 94 := ⟨by kernel_rfl, by kernel_rfl⟩
instance : EqT Try.prog 94 (kS e_A2_int) 2 := ⟨fun d hd x y w => by
  obtain ⟨d, rfl⟩ : ∃ e, d = e + 1 := ⟨d - 1, by omega⟩
  refine (eqArray Try.underlying94 inferInstance (bs := [decide (x.e0 = y.e0), decide (x.e1 = y.e1)]) ?_).trans ?_
  · exact (EqAs.cons (t := 3) (V := (kI .i64)) (a := x.e0) (b := y.e0) (by omega) ((inferInstance : LiesL Try.prog 3 [.int .i64 x.e0, .int .i64 x.e1] 0 (.int .i64 x.e0)).lies) ((inferInstance : LiesL Try.prog 3 [.int .i64 y.e0, .int .i64 y.e1] 0 (.int .i64 y.e0)).lies) (EqAs.cons (t := 3) (V := (kI .i64)) (a := x.e1) (b := y.e1) (by omega) ((inferInstance : LiesL Try.prog 3 [.int .i64 x.e0, .int .i64 x.e1] 1 (.int .i64 x.e1)).lies) ((inferInstance : LiesL Try.prog 3 [.int .i64 y.e0, .int .i64 y.e1] 1 (.int .i64 y.e1)).lies) trivial))
  · cases x; cases y; simp only [Result.ok.injEq, and_true]; rw [Bool.eq_iff_iff]; simp⟩
def ok_A2_int : World → S_A2_int → Prop := fun w x => okI .i64 w x.e0 ∧ okI .i64 w x.e1
instance : Rd Try.prog 94 e_A2_int ok_A2_int := ⟨fun {H enc w fuel cs x} h => by
  obtain ⟨xs, m, _, _, hl, hlen, hf⟩ := DataW.trod_array Try.underlying94 h
  rw [cellsOf_of (n := 2)] at hl
  match cs, hl with
  | [c0, c1], _ =>
    obtain ⟨y0, e0, k0, l0⟩ := Rd.elt (P := Try.prog) (t' := 3) hf hlen 0 (by omega) 0 rfl
    replace e0 : [c0] = [.int .i64 y0] := e0
    replace l0 : ∀ c, c ∈ [c0] → fl c = true := l0
    obtain ⟨y1, e1, k1, l1⟩ := Rd.elt (P := Try.prog) (t' := 3) hf hlen 1 (by omega) 1 rfl
    replace e1 : [c1] = [.int .i64 y1] := e1
    replace l1 : ∀ c, c ∈ [c1] → fl c = true := l1
    have q0 := (List.cons.inj e0).1.symm; subst q0
    have q1 := (List.cons.inj e1).1.symm; subst q1
    refine ⟨⟨y0, y1⟩, rfl, ⟨k0, k1⟩, fun c hc => ?_⟩
    simp only [List.mem_cons, List.not_mem_nil, or_false] at hc
    rcases hc with rfl | rfl
    · exact l0 _ (by simp)
    · exact l1 _ (by simp)⟩
def ok_api_Gate : World → S_api_Gate → Prop := fun w x => okI .i64 w x.f_From ∧ okI .i64 w x.f_To ∧ okI .u32 w x.f_Need ∧ okI .i64 w x.f_Quota
instance : Rd Try.prog 35 e_api_Gate ok_api_Gate := ⟨fun {H enc w fuel cs x} h => by
  obtain ⟨xs, m, _, _, hl, hlen, hf⟩ := DataW.trod_struct Try.underlying35 h
  rw [cellsOf_of (n := 4)] at hl
  match cs, hl with
  | [c0, c1, c2, c3], _ =>
    obtain ⟨y0, e0, k0, l0⟩ := Rd.fld (P := Try.prog) (t' := 3) hf hlen 0 _ rfl rfl 0 rfl
    replace e0 : [c0] = [.int .i64 y0] := e0
    replace l0 : ∀ c, c ∈ [c0] → fl c = true := l0
    obtain ⟨y1, e1, k1, l1⟩ := Rd.fld (P := Try.prog) (t' := 3) hf hlen 1 _ rfl rfl 1 rfl
    replace e1 : [c1] = [.int .i64 y1] := e1
    replace l1 : ∀ c, c ∈ [c1] → fl c = true := l1
    obtain ⟨y2, e2, k2, l2⟩ := Rd.fld (P := Try.prog) (t' := 33) hf hlen 2 _ rfl rfl 2 rfl
    replace e2 : [c2] = [.int .u32 y2] := e2
    replace l2 : ∀ c, c ∈ [c2] → fl c = true := l2
    obtain ⟨y3, e3, k3, l3⟩ := Rd.fld (P := Try.prog) (t' := 3) hf hlen 3 _ rfl rfl 3 rfl
    replace e3 : [c3] = [.int .i64 y3] := e3
    replace l3 : ∀ c, c ∈ [c3] → fl c = true := l3
    have q0 := (List.cons.inj e0).1.symm; subst q0
    have q1 := (List.cons.inj e1).1.symm; subst q1
    have q2 := (List.cons.inj e2).1.symm; subst q2
    have q3 := (List.cons.inj e3).1.symm; subst q3
    refine ⟨⟨y0, y1, y2, y3⟩, rfl, ⟨k0, k1, k2, k3⟩, fun c hc => ?_⟩
    simp only [List.mem_cons, List.not_mem_nil, or_false] at hc
    rcases hc with rfl | rfl | rfl | rfl
    · exact l0 _ (by simp)
    · exact l1 _ (by simp)
    · exact l2 _ (by simp)
    · exact l3 _ (by simp)⟩
def ok_confidantlaw21_Act : World → S_confidantlaw21_Act → Prop := fun w x => okI .u8 w x.f_What ∧ okI .u8 w x.f_N ∧ okI .u8 w x.f_Label ∧ okI .u8 w x.f_Privs ∧ okI .i32 w x.f_V ∧ okI .i32 w x.f_By ∧ okI .i64 w x.f_Raw
instance : Rd Try.prog 41 e_confidantlaw21_Act ok_confidantlaw21_Act := ⟨fun {H enc w fuel cs x} h => by
  obtain ⟨xs, m, _, _, hl, hlen, hf⟩ := DataW.trod_struct Try.underlying41 h
  rw [cellsOf_of (n := 7)] at hl
  match cs, hl with
  | [c0, c1, c2, c3, c4, c5, c6], _ =>
    obtain ⟨y0, e0, k0, l0⟩ := Rd.fld (P := Try.prog) (t' := 5) hf hlen 0 _ rfl rfl 0 rfl
    replace e0 : [c0] = [.int .u8 y0] := e0
    replace l0 : ∀ c, c ∈ [c0] → fl c = true := l0
    obtain ⟨y1, e1, k1, l1⟩ := Rd.fld (P := Try.prog) (t' := 5) hf hlen 1 _ rfl rfl 1 rfl
    replace e1 : [c1] = [.int .u8 y1] := e1
    replace l1 : ∀ c, c ∈ [c1] → fl c = true := l1
    obtain ⟨y2, e2, k2, l2⟩ := Rd.fld (P := Try.prog) (t' := 5) hf hlen 2 _ rfl rfl 2 rfl
    replace e2 : [c2] = [.int .u8 y2] := e2
    replace l2 : ∀ c, c ∈ [c2] → fl c = true := l2
    obtain ⟨y3, e3, k3, l3⟩ := Rd.fld (P := Try.prog) (t' := 5) hf hlen 3 _ rfl rfl 3 rfl
    replace e3 : [c3] = [.int .u8 y3] := e3
    replace l3 : ∀ c, c ∈ [c3] → fl c = true := l3
    obtain ⟨y4, e4, k4, l4⟩ := Rd.fld (P := Try.prog) (t' := 21) hf hlen 4 _ rfl rfl 4 rfl
    replace e4 : [c4] = [.int .i32 y4] := e4
    replace l4 : ∀ c, c ∈ [c4] → fl c = true := l4
    obtain ⟨y5, e5, k5, l5⟩ := Rd.fld (P := Try.prog) (t' := 21) hf hlen 5 _ rfl rfl 5 rfl
    replace e5 : [c5] = [.int .i32 y5] := e5
    replace l5 : ∀ c, c ∈ [c5] → fl c = true := l5
    obtain ⟨y6, e6, k6, l6⟩ := Rd.fld (P := Try.prog) (t' := 3) hf hlen 6 _ rfl rfl 6 rfl
    replace e6 : [c6] = [.int .i64 y6] := e6
    replace l6 : ∀ c, c ∈ [c6] → fl c = true := l6
    have q0 := (List.cons.inj e0).1.symm; subst q0
    have q1 := (List.cons.inj e1).1.symm; subst q1
    have q2 := (List.cons.inj e2).1.symm; subst q2
    have q3 := (List.cons.inj e3).1.symm; subst q3
    have q4 := (List.cons.inj e4).1.symm; subst q4
    have q5 := (List.cons.inj e5).1.symm; subst q5
    have q6 := (List.cons.inj e6).1.symm; subst q6
    refine ⟨⟨y0, y1, y2, y3, y4, y5, y6⟩, rfl, ⟨k0, k1, k2, k3, k4, k5, k6⟩, fun c hc => ?_⟩
    simp only [List.mem_cons, List.not_mem_nil, or_false] at hc
    rcases hc with rfl | rfl | rfl | rfl | rfl | rfl | rfl
    · exact l0 _ (by simp)
    · exact l1 _ (by simp)
    · exact l2 _ (by simp)
    · exact l3 _ (by simp)
    · exact l4 _ (by simp)
    · exact l5 _ (by simp)
    · exact l6 _ (by simp)⟩
def ok_api_Record : World → S_api_Record → Prop := fun w x => okI .i64 w x.f_Seq ∧ okI .i64 w x.f_Gate ∧ okI .i64 w x.f_To ∧ okI .i32 w x.f_Value ∧ okI .i64 w x.f_Round ∧ okI .i32 w x.f_By
instance : Rd Try.prog 59 e_api_Record ok_api_Record := ⟨fun {H enc w fuel cs x} h => by
  obtain ⟨xs, m, _, _, hl, hlen, hf⟩ := DataW.trod_struct Try.underlying59 h
  rw [cellsOf_of (n := 6)] at hl
  match cs, hl with
  | [c0, c1, c2, c3, c4, c5], _ =>
    obtain ⟨y0, e0, k0, l0⟩ := Rd.fld (P := Try.prog) (t' := 3) hf hlen 0 _ rfl rfl 0 rfl
    replace e0 : [c0] = [.int .i64 y0] := e0
    replace l0 : ∀ c, c ∈ [c0] → fl c = true := l0
    obtain ⟨y1, e1, k1, l1⟩ := Rd.fld (P := Try.prog) (t' := 3) hf hlen 1 _ rfl rfl 1 rfl
    replace e1 : [c1] = [.int .i64 y1] := e1
    replace l1 : ∀ c, c ∈ [c1] → fl c = true := l1
    obtain ⟨y2, e2, k2, l2⟩ := Rd.fld (P := Try.prog) (t' := 3) hf hlen 2 _ rfl rfl 2 rfl
    replace e2 : [c2] = [.int .i64 y2] := e2
    replace l2 : ∀ c, c ∈ [c2] → fl c = true := l2
    obtain ⟨y3, e3, k3, l3⟩ := Rd.fld (P := Try.prog) (t' := 21) hf hlen 3 _ rfl rfl 3 rfl
    replace e3 : [c3] = [.int .i32 y3] := e3
    replace l3 : ∀ c, c ∈ [c3] → fl c = true := l3
    obtain ⟨y4, e4, k4, l4⟩ := Rd.fld (P := Try.prog) (t' := 3) hf hlen 4 _ rfl rfl 4 rfl
    replace e4 : [c4] = [.int .i64 y4] := e4
    replace l4 : ∀ c, c ∈ [c4] → fl c = true := l4
    obtain ⟨y5, e5, k5, l5⟩ := Rd.fld (P := Try.prog) (t' := 21) hf hlen 5 _ rfl rfl 5 rfl
    replace e5 : [c5] = [.int .i32 y5] := e5
    replace l5 : ∀ c, c ∈ [c5] → fl c = true := l5
    have q0 := (List.cons.inj e0).1.symm; subst q0
    have q1 := (List.cons.inj e1).1.symm; subst q1
    have q2 := (List.cons.inj e2).1.symm; subst q2
    have q3 := (List.cons.inj e3).1.symm; subst q3
    have q4 := (List.cons.inj e4).1.symm; subst q4
    have q5 := (List.cons.inj e5).1.symm; subst q5
    refine ⟨⟨y0, y1, y2, y3, y4, y5⟩, rfl, ⟨k0, k1, k2, k3, k4, k5⟩, fun c hc => ?_⟩
    simp only [List.mem_cons, List.not_mem_nil, or_false] at hc
    rcases hc with rfl | rfl | rfl | rfl | rfl | rfl
    · exact l0 _ (by simp)
    · exact l1 _ (by simp)
    · exact l2 _ (by simp)
    · exact l3 _ (by simp)
    · exact l4 _ (by simp)
    · exact l5 _ (by simp)⟩
def ok_lattice_Lattice : World → S_lattice_Lattice → Prop := fun w x => (okS eVal ((okS (eInt .i64) (okI .i64)))) w x.f_leq ∧ (okS eVal ((okS (eInt .i64) (okI .i64)))) w x.f_join ∧ (okS eVal ((okS (eInt .i64) (okI .i64)))) w x.f_meet ∧ okI .i64 w x.f_top ∧ okI .i64 w x.f_bottom
instance : Rd Try.prog 71 e_lattice_Lattice ok_lattice_Lattice := ⟨fun {H enc w fuel cs x} h => by
  obtain ⟨xs, m, _, _, hl, hlen, hf⟩ := DataW.trod_struct Try.underlying71 h
  rw [cellsOf_of (n := 5)] at hl
  match cs, hl with
  | [c0, c1, c2, c3, c4], _ =>
    obtain ⟨y0, e0, k0, l0⟩ := Rd.fld (P := Try.prog) (t' := 69) hf hlen 0 _ rfl rfl 0 rfl
    replace e0 : [c0] = [y0] := e0
    replace l0 : ∀ c, c ∈ [c0] → fl c = true := l0
    obtain ⟨y1, e1, k1, l1⟩ := Rd.fld (P := Try.prog) (t' := 69) hf hlen 1 _ rfl rfl 1 rfl
    replace e1 : [c1] = [y1] := e1
    replace l1 : ∀ c, c ∈ [c1] → fl c = true := l1
    obtain ⟨y2, e2, k2, l2⟩ := Rd.fld (P := Try.prog) (t' := 69) hf hlen 2 _ rfl rfl 2 rfl
    replace e2 : [c2] = [y2] := e2
    replace l2 : ∀ c, c ∈ [c2] → fl c = true := l2
    obtain ⟨y3, e3, k3, l3⟩ := Rd.fld (P := Try.prog) (t' := 3) hf hlen 3 _ rfl rfl 3 rfl
    replace e3 : [c3] = [.int .i64 y3] := e3
    replace l3 : ∀ c, c ∈ [c3] → fl c = true := l3
    obtain ⟨y4, e4, k4, l4⟩ := Rd.fld (P := Try.prog) (t' := 3) hf hlen 4 _ rfl rfl 4 rfl
    replace e4 : [c4] = [.int .i64 y4] := e4
    replace l4 : ∀ c, c ∈ [c4] → fl c = true := l4
    have q0 := (List.cons.inj e0).1.symm; subst q0
    have q1 := (List.cons.inj e1).1.symm; subst q1
    have q2 := (List.cons.inj e2).1.symm; subst q2
    have q3 := (List.cons.inj e3).1.symm; subst q3
    have q4 := (List.cons.inj e4).1.symm; subst q4
    refine ⟨⟨y0, y1, y2, y3, y4⟩, rfl, ⟨k0, k1, k2, k3, k4⟩, fun c hc => ?_⟩
    simp only [List.mem_cons, List.not_mem_nil, or_false] at hc
    rcases hc with rfl | rfl | rfl | rfl | rfl
    · exact l0 _ (by simp)
    · exact l1 _ (by simp)
    · exact l2 _ (by simp)
    · exact l3 _ (by simp)
    · exact l4 _ (by simp)⟩
def ok_gate_use : World → S_gate_use → Prop := fun w x => okI .i64 w x.f_gate ∧ okI .i64 w x.f_label
instance : Rd Try.prog 88 e_gate_use ok_gate_use := ⟨fun {H enc w fuel cs x} h => by
  obtain ⟨xs, m, _, _, hl, hlen, hf⟩ := DataW.trod_struct Try.underlying88 h
  rw [cellsOf_of (n := 2)] at hl
  match cs, hl with
  | [c0, c1], _ =>
    obtain ⟨y0, e0, k0, l0⟩ := Rd.fld (P := Try.prog) (t' := 3) hf hlen 0 _ rfl rfl 0 rfl
    replace e0 : [c0] = [.int .i64 y0] := e0
    replace l0 : ∀ c, c ∈ [c0] → fl c = true := l0
    obtain ⟨y1, e1, k1, l1⟩ := Rd.fld (P := Try.prog) (t' := 3) hf hlen 1 _ rfl rfl 1 rfl
    replace e1 : [c1] = [.int .i64 y1] := e1
    replace l1 : ∀ c, c ∈ [c1] → fl c = true := l1
    have q0 := (List.cons.inj e0).1.symm; subst q0
    have q1 := (List.cons.inj e1).1.symm; subst q1
    refine ⟨⟨y0, y1⟩, rfl, ⟨k0, k1⟩, fun c hc => ?_⟩
    simp only [List.mem_cons, List.not_mem_nil, or_false] at hc
    rcases hc with rfl | rfl
    · exact l0 _ (by simp)
    · exact l1 _ (by simp)⟩
def ok_gate_wait : World → S_gate_wait → Prop := fun w x => okI .i64 w x.f_gate ∧ okI .i32 w x.f_v ∧ okI .i32 w x.f_by
instance : Rd Try.prog 92 e_gate_wait ok_gate_wait := ⟨fun {H enc w fuel cs x} h => by
  obtain ⟨xs, m, _, _, hl, hlen, hf⟩ := DataW.trod_struct Try.underlying92 h
  rw [cellsOf_of (n := 3)] at hl
  match cs, hl with
  | [c0, c1, c2], _ =>
    obtain ⟨y0, e0, k0, l0⟩ := Rd.fld (P := Try.prog) (t' := 3) hf hlen 0 _ rfl rfl 0 rfl
    replace e0 : [c0] = [.int .i64 y0] := e0
    replace l0 : ∀ c, c ∈ [c0] → fl c = true := l0
    obtain ⟨y1, e1, k1, l1⟩ := Rd.fld (P := Try.prog) (t' := 21) hf hlen 1 _ rfl rfl 1 rfl
    replace e1 : [c1] = [.int .i32 y1] := e1
    replace l1 : ∀ c, c ∈ [c1] → fl c = true := l1
    obtain ⟨y2, e2, k2, l2⟩ := Rd.fld (P := Try.prog) (t' := 21) hf hlen 2 _ rfl rfl 2 rfl
    replace e2 : [c2] = [.int .i32 y2] := e2
    replace l2 : ∀ c, c ∈ [c2] → fl c = true := l2
    have q0 := (List.cons.inj e0).1.symm; subst q0
    have q1 := (List.cons.inj e1).1.symm; subst q1
    have q2 := (List.cons.inj e2).1.symm; subst q2
    refine ⟨⟨y0, y1, y2⟩, rfl, ⟨k0, k1, k2⟩, fun c hc => ?_⟩
    simp only [List.mem_cons, List.not_mem_nil, or_false] at hc
    rcases hc with rfl | rfl | rfl
    · exact l0 _ (by simp)
    · exact l1 _ (by simp)
    · exact l2 _ (by simp)⟩
def ok_confidantref21_waits : World → S_confidantref21_waits → Prop := fun w x => okI .i64 w x.f_gate ∧ okI .i32 w x.f_v ∧ okI .i32 w x.f_by
instance : Rd Try.prog 96 e_confidantref21_waits ok_confidantref21_waits := ⟨fun {H enc w fuel cs x} h => by
  obtain ⟨xs, m, _, _, hl, hlen, hf⟩ := DataW.trod_struct Try.underlying96 h
  rw [cellsOf_of (n := 3)] at hl
  match cs, hl with
  | [c0, c1, c2], _ =>
    obtain ⟨y0, e0, k0, l0⟩ := Rd.fld (P := Try.prog) (t' := 3) hf hlen 0 _ rfl rfl 0 rfl
    replace e0 : [c0] = [.int .i64 y0] := e0
    replace l0 : ∀ c, c ∈ [c0] → fl c = true := l0
    obtain ⟨y1, e1, k1, l1⟩ := Rd.fld (P := Try.prog) (t' := 21) hf hlen 1 _ rfl rfl 1 rfl
    replace e1 : [c1] = [.int .i32 y1] := e1
    replace l1 : ∀ c, c ∈ [c1] → fl c = true := l1
    obtain ⟨y2, e2, k2, l2⟩ := Rd.fld (P := Try.prog) (t' := 21) hf hlen 2 _ rfl rfl 2 rfl
    replace e2 : [c2] = [.int .i32 y2] := e2
    replace l2 : ∀ c, c ∈ [c2] → fl c = true := l2
    have q0 := (List.cons.inj e0).1.symm; subst q0
    have q1 := (List.cons.inj e1).1.symm; subst q1
    have q2 := (List.cons.inj e2).1.symm; subst q2
    refine ⟨⟨y0, y1, y2⟩, rfl, ⟨k0, k1, k2⟩, fun c hc => ?_⟩
    simp only [List.mem_cons, List.not_mem_nil, or_false] at hc
    rcases hc with rfl | rfl | rfl
    · exact l0 _ (by simp)
    · exact l1 _ (by simp)
    · exact l2 _ (by simp)⟩
instance : EqG Try.prog 35 := ⟨by kernel_rfl, by kernel_rfl⟩
instance : EqT Try.prog 35 (kS e_api_Gate) 2 := ⟨fun d hd x y w => by
  obtain ⟨d, rfl⟩ : ∃ e, d = e + 1 := ⟨d - 1, by omega⟩
  refine (eqStruct Try.underlying35 (by kernel_rfl) (bs := [decide (x.f_From = y.f_From), decide (x.f_To = y.f_To), decide (x.f_Need = y.f_Need), decide (x.f_Quota = y.f_Quota)]) ?_).trans ?_
  · exact (EqFs.cons (t := 3) (V := (kI .i64)) (a := x.f_From) (b := y.f_From) rfl (by decide) (by omega) ((inferInstance : LiesL Try.prog 3 [.int .i64 x.f_From, .int .i64 x.f_To, .int .u32 x.f_Need, .int .i64 x.f_Quota] 0 (.int .i64 x.f_From)).lies) ((inferInstance : LiesL Try.prog 3 [.int .i64 y.f_From, .int .i64 y.f_To, .int .u32 y.f_Need, .int .i64 y.f_Quota] 0 (.int .i64 y.f_From)).lies) (EqFs.cons (t := 3) (V := (kI .i64)) (a := x.f_To) (b := y.f_To) rfl (by decide) (by omega) ((inferInstance : LiesL Try.prog 3 [.int .i64 x.f_From, .int .i64 x.f_To, .int .u32 x.f_Need, .int .i64 x.f_Quota] 1 (.int .i64 x.f_To)).lies) ((inferInstance : LiesL Try.prog 3 [.int .i64 y.f_From, .int .i64 y.f_To, .int .u32 y.f_Need, .int .i64 y.f_Quota] 1 (.int .i64 y.f_To)).lies) (EqFs.cons (t := 33) (V := (kI .u32)) (a := x.f_Need) (b := y.f_Need) rfl (by decide) (by omega) ((inferInstance : LiesL Try.prog 33 [.int .i64 x.f_From, .int .i64 x.f_To, .int .u32 x.f_Need, .int .i64 x.f_Quota] 2 (.int .u32 x.f_Need)).lies) ((inferInstance : LiesL Try.prog 33 [.int .i64 y.f_From, .int .i64 y.f_To, .int .u32 y.f_Need, .int .i64 y.f_Quota] 2 (.int .u32 y.f_Need)).lies) (EqFs.cons (t := 3) (V := (kI .i64)) (a := x.f_Quota) (b := y.f_Quota) rfl (by decide) (by omega) ((inferInstance : LiesL Try.prog 3 [.int .i64 x.f_From, .int .i64 x.f_To, .int .u32 x.f_Need, .int .i64 x.f_Quota] 3 (.int .i64 x.f_Quota)).lies) ((inferInstance : LiesL Try.prog 3 [.int .i64 y.f_From, .int .i64 y.f_To, .int .u32 y.f_Need, .int .i64 y.f_Quota] 3 (.int .i64 y.f_Quota)).lies) trivial))))
  · cases x; cases y; simp only [Result.ok.injEq, and_true]; rw [Bool.eq_iff_iff]; simp⟩
instance : EqG Try.prog 41 := ⟨by kernel_rfl, by kernel_rfl⟩
instance : EqT Try.prog 41 (kS e_confidantlaw21_Act) 2 := ⟨fun d hd x y w => by
  obtain ⟨d, rfl⟩ : ∃ e, d = e + 1 := ⟨d - 1, by omega⟩
  refine (eqStruct Try.underlying41 (by kernel_rfl) (bs := [decide (x.f_What = y.f_What), decide (x.f_N = y.f_N), decide (x.f_Label = y.f_Label), decide (x.f_Privs = y.f_Privs), decide (x.f_V = y.f_V), decide (x.f_By = y.f_By), decide (x.f_Raw = y.f_Raw)]) ?_).trans ?_
  · exact (EqFs.cons (t := 5) (V := (kI .u8)) (a := x.f_What) (b := y.f_What) rfl (by decide) (by omega) ((inferInstance : LiesL Try.prog 5 [.int .u8 x.f_What, .int .u8 x.f_N, .int .u8 x.f_Label, .int .u8 x.f_Privs, .int .i32 x.f_V, .int .i32 x.f_By, .int .i64 x.f_Raw] 0 (.int .u8 x.f_What)).lies) ((inferInstance : LiesL Try.prog 5 [.int .u8 y.f_What, .int .u8 y.f_N, .int .u8 y.f_Label, .int .u8 y.f_Privs, .int .i32 y.f_V, .int .i32 y.f_By, .int .i64 y.f_Raw] 0 (.int .u8 y.f_What)).lies) (EqFs.cons (t := 5) (V := (kI .u8)) (a := x.f_N) (b := y.f_N) rfl (by decide) (by omega) ((inferInstance : LiesL Try.prog 5 [.int .u8 x.f_What, .int .u8 x.f_N, .int .u8 x.f_Label, .int .u8 x.f_Privs, .int .i32 x.f_V, .int .i32 x.f_By, .int .i64 x.f_Raw] 1 (.int .u8 x.f_N)).lies) ((inferInstance : LiesL Try.prog 5 [.int .u8 y.f_What, .int .u8 y.f_N, .int .u8 y.f_Label, .int .u8 y.f_Privs, .int .i32 y.f_V, .int .i32 y.f_By, .int .i64 y.f_Raw] 1 (.int .u8 y.f_N)).lies) (EqFs.cons (t := 5) (V := (kI .u8)) (a := x.f_Label) (b := y.f_Label) rfl (by decide) (by omega) ((inferInstance : LiesL Try.prog 5 [.int .u8 x.f_What, .int .u8 x.f_N, .int .u8 x.f_Label, .int .u8 x.f_Privs, .int .i32 x.f_V, .int .i32 x.f_By, .int .i64 x.f_Raw] 2 (.int .u8 x.f_Label)).lies) ((inferInstance : LiesL Try.prog 5 [.int .u8 y.f_What, .int .u8 y.f_N, .int .u8 y.f_Label, .int .u8 y.f_Privs, .int .i32 y.f_V, .int .i32 y.f_By, .int .i64 y.f_Raw] 2 (.int .u8 y.f_Label)).lies) (EqFs.cons (t := 5) (V := (kI .u8)) (a := x.f_Privs) (b := y.f_Privs) rfl (by decide) (by omega) ((inferInstance : LiesL Try.prog 5 [.int .u8 x.f_What, .int .u8 x.f_N, .int .u8 x.f_Label, .int .u8 x.f_Privs, .int .i32 x.f_V, .int .i32 x.f_By, .int .i64 x.f_Raw] 3 (.int .u8 x.f_Privs)).lies) ((inferInstance : LiesL Try.prog 5 [.int .u8 y.f_What, .int .u8 y.f_N, .int .u8 y.f_Label, .int .u8 y.f_Privs, .int .i32 y.f_V, .int .i32 y.f_By, .int .i64 y.f_Raw] 3 (.int .u8 y.f_Privs)).lies) (EqFs.cons (t := 21) (V := (kI .i32)) (a := x.f_V) (b := y.f_V) rfl (by decide) (by omega) ((inferInstance : LiesL Try.prog 21 [.int .u8 x.f_What, .int .u8 x.f_N, .int .u8 x.f_Label, .int .u8 x.f_Privs, .int .i32 x.f_V, .int .i32 x.f_By, .int .i64 x.f_Raw] 4 (.int .i32 x.f_V)).lies) ((inferInstance : LiesL Try.prog 21 [.int .u8 y.f_What, .int .u8 y.f_N, .int .u8 y.f_Label, .int .u8 y.f_Privs, .int .i32 y.f_V, .int .i32 y.f_By, .int .i64 y.f_Raw] 4 (.int .i32 y.f_V)).lies) (EqFs.cons (t := 21) (V := (kI .i32)) (a := x.f_By) (b := y.f_By) rfl (by decide) (by omega) ((inferInstance : LiesL Try.prog 21 [.int .u8 x.f_What, .int .u8 x.f_N, .int .u8 x.f_Label, .int .u8 x.f_Privs, .int .i32 x.f_V, .int .i32 x.f_By, .int .i64 x.f_Raw] 5 (.int .i32 x.f_By)).lies) ((inferInstance : LiesL Try.prog 21 [.int .u8 y.f_What, .int .u8 y.f_N, .int .u8 y.f_Label, .int .u8 y.f_Privs, .int .i32 y.f_V, .int .i32 y.f_By, .int .i64 y.f_Raw] 5 (.int .i32 y.f_By)).lies) (EqFs.cons (t := 3) (V := (kI .i64)) (a := x.f_Raw) (b := y.f_Raw) rfl (by decide) (by omega) ((inferInstance : LiesL Try.prog 3 [.int .u8 x.f_What, .int .u8 x.f_N, .int .u8 x.f_Label, .int .u8 x.f_Privs, .int .i32 x.f_V, .int .i32 x.f_By, .int .i64 x.f_Raw] 6 (.int .i64 x.f_Raw)).lies) ((inferInstance : LiesL Try.prog 3 [.int .u8 y.f_What, .int .u8 y.f_N, .int .u8 y.f_Label, .int .u8 y.f_Privs, .int .i32 y.f_V, .int .i32 y.f_By, .int .i64 y.f_Raw] 6 (.int .i64 y.f_Raw)).lies) trivial)))))))
  · cases x; cases y; simp only [Result.ok.injEq, and_true]; rw [Bool.eq_iff_iff]; simp⟩
instance : EqG Try.prog 59 := ⟨by kernel_rfl, by kernel_rfl⟩
instance : EqT Try.prog 59 (kS e_api_Record) 2 := ⟨fun d hd x y w => by
  obtain ⟨d, rfl⟩ : ∃ e, d = e + 1 := ⟨d - 1, by omega⟩
  refine (eqStruct Try.underlying59 (by kernel_rfl) (bs := [decide (x.f_Seq = y.f_Seq), decide (x.f_Gate = y.f_Gate), decide (x.f_To = y.f_To), decide (x.f_Value = y.f_Value), decide (x.f_Round = y.f_Round), decide (x.f_By = y.f_By)]) ?_).trans ?_
  · exact (EqFs.cons (t := 3) (V := (kI .i64)) (a := x.f_Seq) (b := y.f_Seq) rfl (by decide) (by omega) ((inferInstance : LiesL Try.prog 3 [.int .i64 x.f_Seq, .int .i64 x.f_Gate, .int .i64 x.f_To, .int .i32 x.f_Value, .int .i64 x.f_Round, .int .i32 x.f_By] 0 (.int .i64 x.f_Seq)).lies) ((inferInstance : LiesL Try.prog 3 [.int .i64 y.f_Seq, .int .i64 y.f_Gate, .int .i64 y.f_To, .int .i32 y.f_Value, .int .i64 y.f_Round, .int .i32 y.f_By] 0 (.int .i64 y.f_Seq)).lies) (EqFs.cons (t := 3) (V := (kI .i64)) (a := x.f_Gate) (b := y.f_Gate) rfl (by decide) (by omega) ((inferInstance : LiesL Try.prog 3 [.int .i64 x.f_Seq, .int .i64 x.f_Gate, .int .i64 x.f_To, .int .i32 x.f_Value, .int .i64 x.f_Round, .int .i32 x.f_By] 1 (.int .i64 x.f_Gate)).lies) ((inferInstance : LiesL Try.prog 3 [.int .i64 y.f_Seq, .int .i64 y.f_Gate, .int .i64 y.f_To, .int .i32 y.f_Value, .int .i64 y.f_Round, .int .i32 y.f_By] 1 (.int .i64 y.f_Gate)).lies) (EqFs.cons (t := 3) (V := (kI .i64)) (a := x.f_To) (b := y.f_To) rfl (by decide) (by omega) ((inferInstance : LiesL Try.prog 3 [.int .i64 x.f_Seq, .int .i64 x.f_Gate, .int .i64 x.f_To, .int .i32 x.f_Value, .int .i64 x.f_Round, .int .i32 x.f_By] 2 (.int .i64 x.f_To)).lies) ((inferInstance : LiesL Try.prog 3 [.int .i64 y.f_Seq, .int .i64 y.f_Gate, .int .i64 y.f_To, .int .i32 y.f_Value, .int .i64 y.f_Round, .int .i32 y.f_By] 2 (.int .i64 y.f_To)).lies) (EqFs.cons (t := 21) (V := (kI .i32)) (a := x.f_Value) (b := y.f_Value) rfl (by decide) (by omega) ((inferInstance : LiesL Try.prog 21 [.int .i64 x.f_Seq, .int .i64 x.f_Gate, .int .i64 x.f_To, .int .i32 x.f_Value, .int .i64 x.f_Round, .int .i32 x.f_By] 3 (.int .i32 x.f_Value)).lies) ((inferInstance : LiesL Try.prog 21 [.int .i64 y.f_Seq, .int .i64 y.f_Gate, .int .i64 y.f_To, .int .i32 y.f_Value, .int .i64 y.f_Round, .int .i32 y.f_By] 3 (.int .i32 y.f_Value)).lies) (EqFs.cons (t := 3) (V := (kI .i64)) (a := x.f_Round) (b := y.f_Round) rfl (by decide) (by omega) ((inferInstance : LiesL Try.prog 3 [.int .i64 x.f_Seq, .int .i64 x.f_Gate, .int .i64 x.f_To, .int .i32 x.f_Value, .int .i64 x.f_Round, .int .i32 x.f_By] 4 (.int .i64 x.f_Round)).lies) ((inferInstance : LiesL Try.prog 3 [.int .i64 y.f_Seq, .int .i64 y.f_Gate, .int .i64 y.f_To, .int .i32 y.f_Value, .int .i64 y.f_Round, .int .i32 y.f_By] 4 (.int .i64 y.f_Round)).lies) (EqFs.cons (t := 21) (V := (kI .i32)) (a := x.f_By) (b := y.f_By) rfl (by decide) (by omega) ((inferInstance : LiesL Try.prog 21 [.int .i64 x.f_Seq, .int .i64 x.f_Gate, .int .i64 x.f_To, .int .i32 x.f_Value, .int .i64 x.f_Round, .int .i32 x.f_By] 5 (.int .i32 x.f_By)).lies) ((inferInstance : LiesL Try.prog 21 [.int .i64 y.f_Seq, .int .i64 y.f_Gate, .int .i64 y.f_To, .int .i32 y.f_Value, .int .i64 y.f_Round, .int .i32 y.f_By] 5 (.int .i32 y.f_By)).lies) trivial))))))
  · cases x; cases y; simp only [Result.ok.injEq, and_true]; rw [Bool.eq_iff_iff]; simp⟩
instance : EqG Try.prog 88 := ⟨by kernel_rfl, by kernel_rfl⟩
instance : EqT Try.prog 88 (kS e_gate_use) 2 := ⟨fun d hd x y w => by
  obtain ⟨d, rfl⟩ : ∃ e, d = e + 1 := ⟨d - 1, by omega⟩
  refine (eqStruct Try.underlying88 (by kernel_rfl) (bs := [decide (x.f_gate = y.f_gate), decide (x.f_label = y.f_label)]) ?_).trans ?_
  · exact (EqFs.cons (t := 3) (V := (kI .i64)) (a := x.f_gate) (b := y.f_gate) rfl (by decide) (by omega) ((inferInstance : LiesL Try.prog 3 [.int .i64 x.f_gate, .int .i64 x.f_label] 0 (.int .i64 x.f_gate)).lies) ((inferInstance : LiesL Try.prog 3 [.int .i64 y.f_gate, .int .i64 y.f_label] 0 (.int .i64 y.f_gate)).lies) (EqFs.cons (t := 3) (V := (kI .i64)) (a := x.f_label) (b := y.f_label) rfl (by decide) (by omega) ((inferInstance : LiesL Try.prog 3 [.int .i64 x.f_gate, .int .i64 x.f_label] 1 (.int .i64 x.f_label)).lies) ((inferInstance : LiesL Try.prog 3 [.int .i64 y.f_gate, .int .i64 y.f_label] 1 (.int .i64 y.f_label)).lies) trivial))
  · cases x; cases y; simp only [Result.ok.injEq, and_true]; rw [Bool.eq_iff_iff]; simp⟩
instance : EqG Try.prog 92 := ⟨by kernel_rfl, by kernel_rfl⟩
instance : EqT Try.prog 92 (kS e_gate_wait) 2 := ⟨fun d hd x y w => by
  obtain ⟨d, rfl⟩ : ∃ e, d = e + 1 := ⟨d - 1, by omega⟩
  refine (eqStruct Try.underlying92 (by kernel_rfl) (bs := [decide (x.f_gate = y.f_gate), decide (x.f_v = y.f_v), decide (x.f_by = y.f_by)]) ?_).trans ?_
  · exact (EqFs.cons (t := 3) (V := (kI .i64)) (a := x.f_gate) (b := y.f_gate) rfl (by decide) (by omega) ((inferInstance : LiesL Try.prog 3 [.int .i64 x.f_gate, .int .i32 x.f_v, .int .i32 x.f_by] 0 (.int .i64 x.f_gate)).lies) ((inferInstance : LiesL Try.prog 3 [.int .i64 y.f_gate, .int .i32 y.f_v, .int .i32 y.f_by] 0 (.int .i64 y.f_gate)).lies) (EqFs.cons (t := 21) (V := (kI .i32)) (a := x.f_v) (b := y.f_v) rfl (by decide) (by omega) ((inferInstance : LiesL Try.prog 21 [.int .i64 x.f_gate, .int .i32 x.f_v, .int .i32 x.f_by] 1 (.int .i32 x.f_v)).lies) ((inferInstance : LiesL Try.prog 21 [.int .i64 y.f_gate, .int .i32 y.f_v, .int .i32 y.f_by] 1 (.int .i32 y.f_v)).lies) (EqFs.cons (t := 21) (V := (kI .i32)) (a := x.f_by) (b := y.f_by) rfl (by decide) (by omega) ((inferInstance : LiesL Try.prog 21 [.int .i64 x.f_gate, .int .i32 x.f_v, .int .i32 x.f_by] 2 (.int .i32 x.f_by)).lies) ((inferInstance : LiesL Try.prog 21 [.int .i64 y.f_gate, .int .i32 y.f_v, .int .i32 y.f_by] 2 (.int .i32 y.f_by)).lies) trivial)))
  · cases x; cases y; simp only [Result.ok.injEq, and_true]; rw [Bool.eq_iff_iff]; simp⟩
instance : EqG Try.prog 96 := ⟨by kernel_rfl, by kernel_rfl⟩
instance : EqT Try.prog 96 (kS e_confidantref21_waits) 2 := ⟨fun d hd x y w => by
  obtain ⟨d, rfl⟩ : ∃ e, d = e + 1 := ⟨d - 1, by omega⟩
  refine (eqStruct Try.underlying96 (by kernel_rfl) (bs := [decide (x.f_gate = y.f_gate), decide (x.f_v = y.f_v), decide (x.f_by = y.f_by)]) ?_).trans ?_
  · exact (EqFs.cons (t := 3) (V := (kI .i64)) (a := x.f_gate) (b := y.f_gate) rfl (by decide) (by omega) ((inferInstance : LiesL Try.prog 3 [.int .i64 x.f_gate, .int .i32 x.f_v, .int .i32 x.f_by] 0 (.int .i64 x.f_gate)).lies) ((inferInstance : LiesL Try.prog 3 [.int .i64 y.f_gate, .int .i32 y.f_v, .int .i32 y.f_by] 0 (.int .i64 y.f_gate)).lies) (EqFs.cons (t := 21) (V := (kI .i32)) (a := x.f_v) (b := y.f_v) rfl (by decide) (by omega) ((inferInstance : LiesL Try.prog 21 [.int .i64 x.f_gate, .int .i32 x.f_v, .int .i32 x.f_by] 1 (.int .i32 x.f_v)).lies) ((inferInstance : LiesL Try.prog 21 [.int .i64 y.f_gate, .int .i32 y.f_v, .int .i32 y.f_by] 1 (.int .i32 y.f_v)).lies) (EqFs.cons (t := 21) (V := (kI .i32)) (a := x.f_by) (b := y.f_by) rfl (by decide) (by omega) ((inferInstance : LiesL Try.prog 21 [.int .i64 x.f_gate, .int .i32 x.f_v, .int .i32 x.f_by] 2 (.int .i32 x.f_by)).lies) ((inferInstance : LiesL Try.prog 21 [.int .i64 y.f_gate, .int .i32 y.f_v, .int .i32 y.f_by] 2 (.int .i32 y.f_by)).lies) trivial)))
  · cases x; cases y; simp only [Result.ok.injEq, and_true]; rw [Bool.eq_iff_iff]; simp⟩
theorem mixed : Try.prog.follows .mixedOrders = true := by kernel_rfl
end Go.Proofs.Ytefmjphokgnobaa
