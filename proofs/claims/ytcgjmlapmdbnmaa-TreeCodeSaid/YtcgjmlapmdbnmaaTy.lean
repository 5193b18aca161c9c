/- Facts on the types and functions of the program. Conditions: none. -/
import Derived.Test.YtcgjmlapmdbnmaaProg
import Derived.Test.YtcgjmlapmdbnmaaSlC
namespace Go.Proofs.Ytcgjmlapmdbnmaa
open Go Go.Sl
set_option linter.unusedVariables false
set_option maxRecDepth 100000
instance : TySz Try.prog 1 1 := ⟨by kernel_rfl⟩
instance : TyB Try.prog 1 8 := ⟨by kernel_rfl⟩
instance : Agg Try.prog 1 false := ⟨by kernel_rfl⟩
instance : TyZ Try.prog 1 (.nilFunc) := ⟨by kernel_rfl⟩
instance : TySz Try.prog 2 1 := ⟨by kernel_rfl⟩
instance : TyB Try.prog 2 8 := ⟨by kernel_rfl⟩
instance : Agg Try.prog 2 false := ⟨by kernel_rfl⟩
instance : TyU Try.prog 2 (.int .i64) := ⟨Try.underlying2⟩
instance : TyZ Try.prog 2 (.int .i64 0) := ⟨by kernel_rfl⟩
instance : TySz Try.prog 3 1 := ⟨by kernel_rfl⟩
instance : TyB Try.prog 3 8 := ⟨by kernel_rfl⟩
instance : Agg Try.prog 3 false := ⟨by kernel_rfl⟩
instance : TyU Try.prog 3 (.int .i64) := ⟨Try.underlying3⟩
instance : TyZ Try.prog 3 (.int .i64 0) := ⟨by kernel_rfl⟩
instance : TySz Try.prog 4 1 := ⟨by kernel_rfl⟩
instance : TyB Try.prog 4 1 := ⟨by kernel_rfl⟩
instance : Agg Try.prog 4 false := ⟨by kernel_rfl⟩
instance : TyU Try.prog 4 .bool := ⟨Try.underlying4⟩
instance : TyZ Try.prog 4 (.bool false) := ⟨by kernel_rfl⟩
instance : TySz Try.prog 5 1 := ⟨by kernel_rfl⟩
instance : TyB Try.prog 5 1 := ⟨by kernel_rfl⟩
instance : Agg Try.prog 5 false := ⟨by kernel_rfl⟩
instance : TyU Try.prog 5 (.int .u8) := ⟨Try.underlying5⟩
instance : TyZ Try.prog 5 (.int .u8 0) := ⟨by kernel_rfl⟩
instance : TySz Try.prog 9 1 := ⟨by kernel_rfl⟩
instance : TyB Try.prog 9 16 := ⟨by kernel_rfl⟩
instance : Agg Try.prog 9 false := ⟨by kernel_rfl⟩
instance : TyU Try.prog 9 .string := ⟨Try.underlying9⟩
instance : TySz Try.prog 12 1 := ⟨by kernel_rfl⟩
instance : TyB Try.prog 12 8 := ⟨by kernel_rfl⟩
instance : Agg Try.prog 12 false := ⟨by kernel_rfl⟩
instance : TyU Try.prog 12 (.int .u64) := ⟨Try.underlying12⟩
instance : TyZ Try.prog 12 (.int .u64 0) := ⟨by kernel_rfl⟩
instance : TySz Try.prog 13 2 := ⟨by kernel_rfl⟩
instance : TyB Try.prog 13 24 := ⟨by kernel_rfl⟩
instance : Agg Try.prog 13 true := ⟨by kernel_rfl⟩
instance : NotI Try.prog 13 := ⟨by kernel_rfl⟩
instance : TyF Try.prog 13 0 0 9 := ⟨⟨_, _, Try.underlying13, rfl, rfl, rfl⟩⟩
instance : TyF Try.prog 13 1 1 12 := ⟨⟨_, _, Try.underlying13, rfl, rfl, rfl⟩⟩
instance : TyPl Try.prog 13 [(0, 1), (1, 1)] := ⟨⟨_, Try.underlying13, by kernel_rfl⟩⟩
instance : TySz Try.prog 20 1 := ⟨by kernel_rfl⟩
instance : TyB Try.prog 20 16 := ⟨by kernel_rfl⟩
instance : Agg Try.prog 20 false := ⟨by kernel_rfl⟩
instance : TyZ Try.prog 20 (.nilIface) := ⟨by kernel_rfl⟩
instance : TySz Try.prog 21 1 := ⟨by kernel_rfl⟩
instance : TyB Try.prog 21 4 := ⟨by kernel_rfl⟩
instance : Agg Try.prog 21 false := ⟨by kernel_rfl⟩
instance : TyU Try.prog 21 (.int .i32) := ⟨Try.underlying21⟩
instance : TyZ Try.prog 21 (.int .i32 0) := ⟨by kernel_rfl⟩
instance : TySz Try.prog 22 1 := ⟨by kernel_rfl⟩
instance : TyB Try.prog 22 24 := ⟨by kernel_rfl⟩
instance : Agg Try.prog 22 false := ⟨by kernel_rfl⟩
instance : TyU Try.prog 22 (.slice 56) := ⟨Try.underlying22⟩
instance : TyZ Try.prog 22 (.slice none 0 0) := ⟨by kernel_rfl⟩
instance : TySz Try.prog 23 1 := ⟨by kernel_rfl⟩
instance : TyB Try.prog 23 24 := ⟨by kernel_rfl⟩
instance : Agg Try.prog 23 false := ⟨by kernel_rfl⟩
instance : TyU Try.prog 23 (.slice 5) := ⟨Try.underlying23⟩
instance : TyZ Try.prog 23 (.slice none 0 0) := ⟨by kernel_rfl⟩
instance : TySz Try.prog 24 1 := ⟨by kernel_rfl⟩
instance : TyB Try.prog 24 8 := ⟨by kernel_rfl⟩
instance : Agg Try.prog 24 false := ⟨by kernel_rfl⟩
instance : TyZ Try.prog 24 (.nilFunc) := ⟨by kernel_rfl⟩
instance : TySz Try.prog 25 1 := ⟨by kernel_rfl⟩
instance : TyB Try.prog 25 8 := ⟨by kernel_rfl⟩
instance : Agg Try.prog 25 false := ⟨by kernel_rfl⟩
instance : TyZ Try.prog 25 (.nilFunc) := ⟨by kernel_rfl⟩
instance : TySz Try.prog 26 1 := ⟨by kernel_rfl⟩
instance : TyB Try.prog 26 24 := ⟨by kernel_rfl⟩
instance : Agg Try.prog 26 false := ⟨by kernel_rfl⟩
instance : TyU Try.prog 26 (.slice 91) := ⟨Try.underlying26⟩
instance : TyZ Try.prog 26 (.slice none 0 0) := ⟨by kernel_rfl⟩
instance : TySz Try.prog 27 1 := ⟨by kernel_rfl⟩
instance : TyB Try.prog 27 8 := ⟨by kernel_rfl⟩
instance : Agg Try.prog 27 false := ⟨by kernel_rfl⟩
instance : TyZ Try.prog 27 (.nilFunc) := ⟨by kernel_rfl⟩
instance : TySz Try.prog 28 1 := ⟨by kernel_rfl⟩
instance : TyB Try.prog 28 8 := ⟨by kernel_rfl⟩
instance : Agg Try.prog 28 false := ⟨by kernel_rfl⟩
instance : TyU Try.prog 28 (.pointer 95) := ⟨Try.underlying28⟩
instance : TyZ Try.prog 28 (.pointer none) := ⟨by kernel_rfl⟩
instance : TySz Try.prog 29 1 := ⟨by kernel_rfl⟩
instance : TyB Try.prog 29 8 := ⟨by kernel_rfl⟩
instance : Agg Try.prog 29 false := ⟨by kernel_rfl⟩
instance : TyU Try.prog 29 (.int .i64) := ⟨Try.underlying29⟩
instance : TyZ Try.prog 29 (.int .i64 0) := ⟨by kernel_rfl⟩
instance : TySz Try.prog 31 1 := ⟨by kernel_rfl⟩
instance : TyB Try.prog 31 8 := ⟨by kernel_rfl⟩
instance : Agg Try.prog 31 false := ⟨by kernel_rfl⟩
instance : TyZ Try.prog 31 (.nilFunc) := ⟨by kernel_rfl⟩
instance : TySz Try.prog 32 1 := ⟨by kernel_rfl⟩
instance : TyB Try.prog 32 8 := ⟨by kernel_rfl⟩
instance : Agg Try.prog 32 false := ⟨by kernel_rfl⟩
instance : TyZ Try.prog 32 (.nilFunc) := ⟨by kernel_rfl⟩
instance : TySz Try.prog 33 1 := ⟨by kernel_rfl⟩
instance : TyB Try.prog 33 8 := ⟨by kernel_rfl⟩
instance : Agg Try.prog 33 false := ⟨by kernel_rfl⟩
instance : TyZ Try.prog 33 (.nilFunc) := ⟨by kernel_rfl⟩
instance : TySz Try.prog 34 1 := ⟨by kernel_rfl⟩
instance : TyB Try.prog 34 8 := ⟨by kernel_rfl⟩
instance : Agg Try.prog 34 false := ⟨by kernel_rfl⟩
instance : TyZ Try.prog 34 (.nilFunc) := ⟨by kernel_rfl⟩
instance : TySz Try.prog 35 1 := ⟨by kernel_rfl⟩
instance : TyB Try.prog 35 24 := ⟨by kernel_rfl⟩
instance : Agg Try.prog 35 false := ⟨by kernel_rfl⟩
instance : TyU Try.prog 35 (.slice 22) := ⟨Try.underlying35⟩
instance : TyZ Try.prog 35 (.slice none 0 0) := ⟨by kernel_rfl⟩
instance : TySz Try.prog 37 1 := ⟨by kernel_rfl⟩
instance : TyB Try.prog 37 8 := ⟨by kernel_rfl⟩
instance : Agg Try.prog 37 false := ⟨by kernel_rfl⟩
instance : TyZ Try.prog 37 (.nilFunc) := ⟨by kernel_rfl⟩
instance : TySz Try.prog 38 1 := ⟨by kernel_rfl⟩
instance : TyB Try.prog 38 24 := ⟨by kernel_rfl⟩
instance : Agg Try.prog 38 false := ⟨by kernel_rfl⟩
instance : TyU Try.prog 38 (.slice 51) := ⟨Try.underlying38⟩
instance : TyZ Try.prog 38 (.slice none 0 0) := ⟨by kernel_rfl⟩
instance : TySz Try.prog 39 1 := ⟨by kernel_rfl⟩
instance : TyB Try.prog 39 24 := ⟨by kernel_rfl⟩
instance : Agg Try.prog 39 false := ⟨by kernel_rfl⟩
instance : TyU Try.prog 39 (.slice 51) := ⟨Try.underlying39⟩
instance : TyZ Try.prog 39 (.slice none 0 0) := ⟨by kernel_rfl⟩
instance : TySz Try.prog 41 1 := ⟨by kernel_rfl⟩
instance : TyB Try.prog 41 8 := ⟨by kernel_rfl⟩
instance : Agg Try.prog 41 false := ⟨by kernel_rfl⟩
instance : TyZ Try.prog 41 (.nilFunc) := ⟨by kernel_rfl⟩
instance : TySz Try.prog 43 1 := ⟨by kernel_rfl⟩
instance : TyB Try.prog 43 8 := ⟨by kernel_rfl⟩
instance : Agg Try.prog 43 false := ⟨by kernel_rfl⟩
instance : TyZ Try.prog 43 (.nilFunc) := ⟨by kernel_rfl⟩
instance : TySz Try.prog 44 1 := ⟨by kernel_rfl⟩
instance : TyB Try.prog 44 8 := ⟨by kernel_rfl⟩
instance : Agg Try.prog 44 false := ⟨by kernel_rfl⟩
instance : TyZ Try.prog 44 (.nilFunc) := ⟨by kernel_rfl⟩
instance : TySz Try.prog 45 1 := ⟨by kernel_rfl⟩
instance : TyB Try.prog 45 8 := ⟨by kernel_rfl⟩
instance : Agg Try.prog 45 false := ⟨by kernel_rfl⟩
instance : TyZ Try.prog 45 (.nilFunc) := ⟨by kernel_rfl⟩
instance : TySz Try.prog 46 1 := ⟨by kernel_rfl⟩
instance : TyB Try.prog 46 8 := ⟨by kernel_rfl⟩
instance : Agg Try.prog 46 false := ⟨by kernel_rfl⟩
instance : TyZ Try.prog 46 (.nilFunc) := ⟨by kernel_rfl⟩
instance : TySz Try.prog 47 1 := ⟨by kernel_rfl⟩
instance : TyB Try.prog 47 8 := ⟨by kernel_rfl⟩
instance : Agg Try.prog 47 false := ⟨by kernel_rfl⟩
instance : TyZ Try.prog 47 (.nilFunc) := ⟨by kernel_rfl⟩
instance : TySz Try.prog 48 1 := ⟨by kernel_rfl⟩
instance : TyB Try.prog 48 8 := ⟨by kernel_rfl⟩
instance : Agg Try.prog 48 false := ⟨by kernel_rfl⟩
instance : TyZ Try.prog 48 (.nilFunc) := ⟨by kernel_rfl⟩
instance : TySz Try.prog 50 1 := ⟨by kernel_rfl⟩
instance : TyB Try.prog 50 8 := ⟨by kernel_rfl⟩
instance : Agg Try.prog 50 false := ⟨by kernel_rfl⟩
instance : TyZ Try.prog 50 (.nilFunc) := ⟨by kernel_rfl⟩
instance : TySz Try.prog 51 1 := ⟨by kernel_rfl⟩
instance : TyB Try.prog 51 24 := ⟨by kernel_rfl⟩
instance : Agg Try.prog 51 false := ⟨by kernel_rfl⟩
instance : TyU Try.prog 51 (.slice 53) := ⟨Try.underlying51⟩
instance : TyZ Try.prog 51 (.slice none 0 0) := ⟨by kernel_rfl⟩
instance : TySz Try.prog 52 2 := ⟨by kernel_rfl⟩
instance : TyB Try.prog 52 16 := ⟨by kernel_rfl⟩
instance : Agg Try.prog 52 true := ⟨by kernel_rfl⟩
instance : TyZ Try.prog 52 (.agg #[.int .i64 0, .int .i32 0]) := ⟨by kernel_rfl⟩
instance : NotI Try.prog 52 := ⟨by kernel_rfl⟩
instance : TyF Try.prog 52 0 0 3 := ⟨⟨_, _, Try.underlying52, rfl, rfl, rfl⟩⟩
instance : TyF Try.prog 52 1 1 21 := ⟨⟨_, _, Try.underlying52, rfl, rfl, rfl⟩⟩
instance : TyPl Try.prog 52 [(0, 1), (1, 1)] := ⟨⟨_, Try.underlying52, by kernel_rfl⟩⟩
instance : TySz Try.prog 53 2 := ⟨by kernel_rfl⟩
instance : TyB Try.prog 53 16 := ⟨by kernel_rfl⟩
instance : Agg Try.prog 53 true := ⟨by kernel_rfl⟩
instance : TyZ Try.prog 53 (.agg #[.int .i64 0, .int .i32 0]) := ⟨by kernel_rfl⟩
instance : NotI Try.prog 53 := ⟨by kernel_rfl⟩
instance : TyF Try.prog 53 0 0 3 := ⟨⟨_, _, Try.underlying53, rfl, rfl, rfl⟩⟩
instance : TyF Try.prog 53 1 1 21 := ⟨⟨_, _, Try.underlying53, rfl, rfl, rfl⟩⟩
instance : TyPl Try.prog 53 [(0, 1), (1, 1)] := ⟨⟨_, Try.underlying53, by kernel_rfl⟩⟩
instance : TySz Try.prog 54 1 := ⟨by kernel_rfl⟩
instance : TyB Try.prog 54 24 := ⟨by kernel_rfl⟩
instance : Agg Try.prog 54 false := ⟨by kernel_rfl⟩
instance : TyU Try.prog 54 (.slice 3) := ⟨Try.underlying54⟩
instance : TyZ Try.prog 54 (.slice none 0 0) := ⟨by kernel_rfl⟩
instance : TySz Try.prog 55 4 := ⟨by kernel_rfl⟩
instance : TyB Try.prog 55 48 := ⟨by kernel_rfl⟩
instance : Agg Try.prog 55 true := ⟨by kernel_rfl⟩
instance : TyZ Try.prog 55 (.agg #[.int .i64 0, .int .i32 0, .int .i64 0, .slice none 0 0]) := ⟨by kernel_rfl⟩
instance : NotI Try.prog 55 := ⟨by kernel_rfl⟩
instance : TyF Try.prog 55 0 0 3 := ⟨⟨_, _, Try.underlying55, rfl, rfl, rfl⟩⟩
instance : TyF Try.prog 55 1 1 21 := ⟨⟨_, _, Try.underlying55, rfl, rfl, rfl⟩⟩
instance : TyF Try.prog 55 2 2 3 := ⟨⟨_, _, Try.underlying55, rfl, rfl, rfl⟩⟩
instance : TyF Try.prog 55 3 3 54 := ⟨⟨_, _, Try.underlying55, rfl, rfl, rfl⟩⟩
instance : TyPl Try.prog 55 [(0, 1), (1, 1), (2, 1), (3, 1)] := ⟨⟨_, Try.underlying55, by kernel_rfl⟩⟩
instance : TySz Try.prog 56 4 := ⟨by kernel_rfl⟩
instance : TyB Try.prog 56 48 := ⟨by kernel_rfl⟩
instance : Agg Try.prog 56 true := ⟨by kernel_rfl⟩
instance : TyZ Try.prog 56 (.agg #[.int .i64 0, .int .i32 0, .int .i64 0, .slice none 0 0]) := ⟨by kernel_rfl⟩
instance : NotI Try.prog 56 := ⟨by kernel_rfl⟩
instance : TyF Try.prog 56 0 0 3 := ⟨⟨_, _, Try.underlying56, rfl, rfl, rfl⟩⟩
instance : TyF Try.prog 56 1 1 21 := ⟨⟨_, _, Try.underlying56, rfl, rfl, rfl⟩⟩
instance : TyF Try.prog 56 2 2 3 := ⟨⟨_, _, Try.underlying56, rfl, rfl, rfl⟩⟩
instance : TyF Try.prog 56 3 3 54 := ⟨⟨_, _, Try.underlying56, rfl, rfl, rfl⟩⟩
instance : TyPl Try.prog 56 [(0, 1), (1, 1), (2, 1), (3, 1)] := ⟨⟨_, Try.underlying56, by kernel_rfl⟩⟩
instance : TySz Try.prog 57 1 := ⟨by kernel_rfl⟩
instance : TyB Try.prog 57 8 := ⟨by kernel_rfl⟩
instance : Agg Try.prog 57 false := ⟨by kernel_rfl⟩
instance : TyZ Try.prog 57 (.nilFunc) := ⟨by kernel_rfl⟩
instance : TySz Try.prog 58 1 := ⟨by kernel_rfl⟩
instance : TyB Try.prog 58 24 := ⟨by kernel_rfl⟩
instance : Agg Try.prog 58 false := ⟨by kernel_rfl⟩
instance : TyU Try.prog 58 (.slice 21) := ⟨Try.underlying58⟩
instance : TyZ Try.prog 58 (.slice none 0 0) := ⟨by kernel_rfl⟩
instance : TySz Try.prog 59 1 := ⟨by kernel_rfl⟩
instance : TyB Try.prog 59 8 := ⟨by kernel_rfl⟩
instance : Agg Try.prog 59 false := ⟨by kernel_rfl⟩
instance : TyZ Try.prog 59 (.nilFunc) := ⟨by kernel_rfl⟩
instance : TySz Try.prog 60 1 := ⟨by kernel_rfl⟩
instance : TyB Try.prog 60 8 := ⟨by kernel_rfl⟩
instance : Agg Try.prog 60 false := ⟨by kernel_rfl⟩
instance : TyZ Try.prog 60 (.nilFunc) := ⟨by kernel_rfl⟩
instance : TySz Try.prog 61 1 := ⟨by kernel_rfl⟩
instance : TyB Try.prog 61 8 := ⟨by kernel_rfl⟩
instance : Agg Try.prog 61 false := ⟨by kernel_rfl⟩
instance : TyZ Try.prog 61 (.nilFunc) := ⟨by kernel_rfl⟩
instance : TySz Try.prog 62 1 := ⟨by kernel_rfl⟩
instance : TyB Try.prog 62 8 := ⟨by kernel_rfl⟩
instance : Agg Try.prog 62 false := ⟨by kernel_rfl⟩
instance : TyZ Try.prog 62 (.nilFunc) := ⟨by kernel_rfl⟩
instance : TySz Try.prog 63 1 := ⟨by kernel_rfl⟩
instance : TyB Try.prog 63 8 := ⟨by kernel_rfl⟩
instance : Agg Try.prog 63 false := ⟨by kernel_rfl⟩
instance : TyZ Try.prog 63 (.nilFunc) := ⟨by kernel_rfl⟩
instance : TySz Try.prog 64 1 := ⟨by kernel_rfl⟩
instance : TyB Try.prog 64 24 := ⟨by kernel_rfl⟩
instance : Agg Try.prog 64 false := ⟨by kernel_rfl⟩
instance : TyU Try.prog 64 (.slice 72) := ⟨Try.underlying64⟩
instance : TyZ Try.prog 64 (.slice none 0 0) := ⟨by kernel_rfl⟩
instance : TySz Try.prog 65 1 := ⟨by kernel_rfl⟩
instance : TyB Try.prog 65 8 := ⟨by kernel_rfl⟩
instance : Agg Try.prog 65 false := ⟨by kernel_rfl⟩
instance : TyU Try.prog 65 (.pointer 111) := ⟨Try.underlying65⟩
instance : TyZ Try.prog 65 (.pointer none) := ⟨by kernel_rfl⟩
instance : TySz Try.prog 66 1 := ⟨by kernel_rfl⟩
instance : TyB Try.prog 66 8 := ⟨by kernel_rfl⟩
instance : Agg Try.prog 66 false := ⟨by kernel_rfl⟩
instance : TyZ Try.prog 66 (.nilFunc) := ⟨by kernel_rfl⟩
instance : TySz Try.prog 67 1 := ⟨by kernel_rfl⟩
instance : TyB Try.prog 67 8 := ⟨by kernel_rfl⟩
instance : Agg Try.prog 67 false := ⟨by kernel_rfl⟩
instance : TyU Try.prog 67 (.pointer 70) := ⟨Try.underlying67⟩
instance : TyZ Try.prog 67 (.pointer none) := ⟨by kernel_rfl⟩
instance : TySz Try.prog 68 1 := ⟨by kernel_rfl⟩
instance : TyB Try.prog 68 24 := ⟨by kernel_rfl⟩
instance : Agg Try.prog 68 false := ⟨by kernel_rfl⟩
instance : TyU Try.prog 68 (.slice 82) := ⟨Try.underlying68⟩
instance : TyZ Try.prog 68 (.slice none 0 0) := ⟨by kernel_rfl⟩
instance : TySz Try.prog 69 1 := ⟨by kernel_rfl⟩
instance : TyB Try.prog 69 24 := ⟨by kernel_rfl⟩
instance : Agg Try.prog 69 true := ⟨by kernel_rfl⟩
instance : TyZ Try.prog 69 (.agg #[.slice none 0 0]) := ⟨by kernel_rfl⟩
instance : NotI Try.prog 69 := ⟨by kernel_rfl⟩
instance : TyF Try.prog 69 0 0 68 := ⟨⟨_, _, Try.underlying69, rfl, rfl, rfl⟩⟩
instance : TyPl Try.prog 69 [(0, 1)] := ⟨⟨_, Try.underlying69, by kernel_rfl⟩⟩
instance : TySz Try.prog 70 1 := ⟨by kernel_rfl⟩
instance : TyB Try.prog 70 24 := ⟨by kernel_rfl⟩
instance : Agg Try.prog 70 true := ⟨by kernel_rfl⟩
instance : TyZ Try.prog 70 (.agg #[.slice none 0 0]) := ⟨by kernel_rfl⟩
instance : NotI Try.prog 70 := ⟨by kernel_rfl⟩
instance : TyF Try.prog 70 0 0 68 := ⟨⟨_, _, Try.underlying70, rfl, rfl, rfl⟩⟩
instance : TyPl Try.prog 70 [(0, 1)] := ⟨⟨_, Try.underlying70, by kernel_rfl⟩⟩
instance : TySz Try.prog 71 4 := ⟨by kernel_rfl⟩
instance : TyB Try.prog 71 16 := ⟨by kernel_rfl⟩
instance : Agg Try.prog 71 true := ⟨by kernel_rfl⟩
instance : TyZ Try.prog 71 (.agg #[.int .u8 0, .int .u8 0, .int .u8 0, .int .i64 0]) := ⟨by kernel_rfl⟩
instance : NotI Try.prog 71 := ⟨by kernel_rfl⟩
instance : TyF Try.prog 71 0 0 5 := ⟨⟨_, _, Try.underlying71, rfl, rfl, rfl⟩⟩
instance : TyF Try.prog 71 1 1 5 := ⟨⟨_, _, Try.underlying71, rfl, rfl, rfl⟩⟩
instance : TyF Try.prog 71 2 2 5 := ⟨⟨_, _, Try.underlying71, rfl, rfl, rfl⟩⟩
instance : TyF Try.prog 71 3 3 3 := ⟨⟨_, _, Try.underlying71, rfl, rfl, rfl⟩⟩
instance : TyPl Try.prog 71 [(0, 1), (1, 1), (2, 1), (3, 1)] := ⟨⟨_, Try.underlying71, by kernel_rfl⟩⟩
instance : TySz Try.prog 72 4 := ⟨by kernel_rfl⟩
instance : TyB Try.prog 72 16 := ⟨by kernel_rfl⟩
instance : Agg Try.prog 72 true := ⟨by kernel_rfl⟩
instance : TyZ Try.prog 72 (.agg #[.int .u8 0, .int .u8 0, .int .u8 0, .int .i64 0]) := ⟨by kernel_rfl⟩
instance : NotI Try.prog 72 := ⟨by kernel_rfl⟩
instance : TyF Try.prog 72 0 0 5 := ⟨⟨_, _, Try.underlying72, rfl, rfl, rfl⟩⟩
instance : TyF Try.prog 72 1 1 5 := ⟨⟨_, _, Try.underlying72, rfl, rfl, rfl⟩⟩
instance : TyF Try.prog 72 2 2 5 := ⟨⟨_, _, Try.underlying72, rfl, rfl, rfl⟩⟩
instance : TyF Try.prog 72 3 3 3 := ⟨⟨_, _, Try.underlying72, rfl, rfl, rfl⟩⟩
instance : TyPl Try.prog 72 [(0, 1), (1, 1), (2, 1), (3, 1)] := ⟨⟨_, Try.underlying72, by kernel_rfl⟩⟩
instance : TySz Try.prog 73 4 := ⟨by kernel_rfl⟩
instance : TyB Try.prog 73 16 := ⟨by kernel_rfl⟩
instance : Agg Try.prog 73 true := ⟨by kernel_rfl⟩
instance : TyU Try.prog 73 (.array 4 21) := ⟨Try.underlying73⟩
instance : TyZ Try.prog 73 (.agg #[.int .i32 0, .int .i32 0, .int .i32 0, .int .i32 0]) := ⟨by kernel_rfl⟩
instance : TySz Try.prog 74 1 := ⟨by kernel_rfl⟩
instance : TyB Try.prog 74 4 := ⟨by kernel_rfl⟩
instance : Agg Try.prog 74 false := ⟨by kernel_rfl⟩
instance : TyU Try.prog 74 (.int .u32) := ⟨Try.underlying74⟩
instance : TyZ Try.prog 74 (.int .u32 0) := ⟨by kernel_rfl⟩
instance : TySz Try.prog 75 12 := ⟨by kernel_rfl⟩
instance : TyB Try.prog 75 96 := ⟨by kernel_rfl⟩
instance : Agg Try.prog 75 true := ⟨by kernel_rfl⟩
instance : TyZ Try.prog 75 (.agg #[.int .i32 0, .int .i64 0, .int .i64 0, .slice none 0 0, .int .i32 0, .int .i32 0, .int .i32 0, .int .i32 0, .int .i64 0, .int .i64 0, .int .u32 0, .int .i64 0]) := ⟨by kernel_rfl⟩
instance : NotI Try.prog 75 := ⟨by kernel_rfl⟩
instance : TyF Try.prog 75 0 0 21 := ⟨⟨_, _, Try.underlying75, rfl, rfl, rfl⟩⟩
instance : TyF Try.prog 75 1 1 3 := ⟨⟨_, _, Try.underlying75, rfl, rfl, rfl⟩⟩
instance : TyF Try.prog 75 2 2 3 := ⟨⟨_, _, Try.underlying75, rfl, rfl, rfl⟩⟩
instance : TyF Try.prog 75 3 3 58 := ⟨⟨_, _, Try.underlying75, rfl, rfl, rfl⟩⟩
instance : TyF Try.prog 75 4 4 73 := ⟨⟨_, _, Try.underlying75, rfl, rfl, rfl⟩⟩
instance : TyF Try.prog 75 5 8 3 := ⟨⟨_, _, Try.underlying75, rfl, rfl, rfl⟩⟩
instance : TyF Try.prog 75 6 9 3 := ⟨⟨_, _, Try.underlying75, rfl, rfl, rfl⟩⟩
instance : TyF Try.prog 75 7 10 74 := ⟨⟨_, _, Try.underlying75, rfl, rfl, rfl⟩⟩
instance : TyF Try.prog 75 8 11 3 := ⟨⟨_, _, Try.underlying75, rfl, rfl, rfl⟩⟩
instance : TyPl Try.prog 75 [(0, 1), (1, 1), (2, 1), (3, 1), (4, 4), (8, 1), (9, 1), (10, 1), (11, 1)] := ⟨⟨_, Try.underlying75, by kernel_rfl⟩⟩
instance : TySz Try.prog 76 12 := ⟨by kernel_rfl⟩
instance : TyB Try.prog 76 96 := ⟨by kernel_rfl⟩
instance : Agg Try.prog 76 true := ⟨by kernel_rfl⟩
instance : TyZ Try.prog 76 (.agg #[.int .i32 0, .int .i64 0, .int .i64 0, .slice none 0 0, .int .i32 0, .int .i32 0, .int .i32 0, .int .i32 0, .int .i64 0, .int .i64 0, .int .u32 0, .int .i64 0]) := ⟨by kernel_rfl⟩
instance : NotI Try.prog 76 := ⟨by kernel_rfl⟩
instance : TyF Try.prog 76 0 0 21 := ⟨⟨_, _, Try.underlying76, rfl, rfl, rfl⟩⟩
instance : TyF Try.prog 76 1 1 3 := ⟨⟨_, _, Try.underlying76, rfl, rfl, rfl⟩⟩
instance : TyF Try.prog 76 2 2 3 := ⟨⟨_, _, Try.underlying76, rfl, rfl, rfl⟩⟩
instance : TyF Try.prog 76 3 3 58 := ⟨⟨_, _, Try.underlying76, rfl, rfl, rfl⟩⟩
instance : TyF Try.prog 76 4 4 73 := ⟨⟨_, _, Try.underlying76, rfl, rfl, rfl⟩⟩
instance : TyF Try.prog 76 5 8 3 := ⟨⟨_, _, Try.underlying76, rfl, rfl, rfl⟩⟩
instance : TyF Try.prog 76 6 9 3 := ⟨⟨_, _, Try.underlying76, rfl, rfl, rfl⟩⟩
instance : TyF Try.prog 76 7 10 74 := ⟨⟨_, _, Try.underlying76, rfl, rfl, rfl⟩⟩
instance : TyF Try.prog 76 8 11 3 := ⟨⟨_, _, Try.underlying76, rfl, rfl, rfl⟩⟩
instance : TyPl Try.prog 76 [(0, 1), (1, 1), (2, 1), (3, 1), (4, 4), (8, 1), (9, 1), (10, 1), (11, 1)] := ⟨⟨_, Try.underlying76, by kernel_rfl⟩⟩
instance : TySz Try.prog 77 1 := ⟨by kernel_rfl⟩
instance : TyB Try.prog 77 8 := ⟨by kernel_rfl⟩
instance : Agg Try.prog 77 false := ⟨by kernel_rfl⟩
instance : TyZ Try.prog 77 (.nilFunc) := ⟨by kernel_rfl⟩
instance : TySz Try.prog 78 13 := ⟨by kernel_rfl⟩
instance : TyB Try.prog 78 104 := ⟨by kernel_rfl⟩
instance : Agg Try.prog 78 true := ⟨by kernel_rfl⟩
instance : TyZ Try.prog 78 (.agg #[.int .i64 0, .int .i32 0, .int .i64 0, .int .i64 0, .slice none 0 0, .int .i32 0, .int .i32 0, .int .i32 0, .int .i32 0, .int .i64 0, .int .i64 0, .int .u32 0, .int .i64 0]) := ⟨by kernel_rfl⟩
instance : NotI Try.prog 78 := ⟨by kernel_rfl⟩
instance : TyF Try.prog 78 0 0 3 := ⟨⟨_, _, Try.underlying78, rfl, rfl, rfl⟩⟩
instance : TyF Try.prog 78 1 1 76 := ⟨⟨_, _, Try.underlying78, rfl, rfl, rfl⟩⟩
instance : TyPl Try.prog 78 [(0, 1), (1, 12)] := ⟨⟨_, Try.underlying78, by kernel_rfl⟩⟩
instance : TySz Try.prog 79 13 := ⟨by kernel_rfl⟩
instance : TyB Try.prog 79 104 := ⟨by kernel_rfl⟩
instance : Agg Try.prog 79 true := ⟨by kernel_rfl⟩
instance : TyZ Try.prog 79 (.agg #[.int .i64 0, .int .i32 0, .int .i64 0, .int .i64 0, .slice none 0 0, .int .i32 0, .int .i32 0, .int .i32 0, .int .i32 0, .int .i64 0, .int .i64 0, .int .u32 0, .int .i64 0]) := ⟨by kernel_rfl⟩
instance : NotI Try.prog 79 := ⟨by kernel_rfl⟩
instance : TyF Try.prog 79 0 0 3 := ⟨⟨_, _, Try.underlying79, rfl, rfl, rfl⟩⟩
instance : TyF Try.prog 79 1 1 76 := ⟨⟨_, _, Try.underlying79, rfl, rfl, rfl⟩⟩
instance : TyPl Try.prog 79 [(0, 1), (1, 12)] := ⟨⟨_, Try.underlying79, by kernel_rfl⟩⟩
instance : TySz Try.prog 81 1 := ⟨by kernel_rfl⟩
instance : TyB Try.prog 81 8 := ⟨by kernel_rfl⟩
instance : Agg Try.prog 81 false := ⟨by kernel_rfl⟩
instance : TyZ Try.prog 81 (.nilFunc) := ⟨by kernel_rfl⟩
instance : TySz Try.prog 82 13 := ⟨by kernel_rfl⟩
instance : TyB Try.prog 82 104 := ⟨by kernel_rfl⟩
instance : Agg Try.prog 82 true := ⟨by kernel_rfl⟩
instance : TyZ Try.prog 82 (.agg #[.int .i64 0, .int .i32 0, .int .i64 0, .int .i64 0, .slice none 0 0, .int .i32 0, .int .i32 0, .int .i32 0, .int .i32 0, .int .i64 0, .int .i64 0, .int .u32 0, .int .i64 0]) := ⟨by kernel_rfl⟩
instance : NotI Try.prog 82 := ⟨by kernel_rfl⟩
instance : TyF Try.prog 82 0 0 3 := ⟨⟨_, _, Try.underlying82, rfl, rfl, rfl⟩⟩
instance : TyF Try.prog 82 1 1 76 := ⟨⟨_, _, Try.underlying82, rfl, rfl, rfl⟩⟩
instance : TyPl Try.prog 82 [(0, 1), (1, 12)] := ⟨⟨_, Try.underlying82, by kernel_rfl⟩⟩
instance : TySz Try.prog 84 1 := ⟨by kernel_rfl⟩
instance : TyB Try.prog 84 8 := ⟨by kernel_rfl⟩
instance : Agg Try.prog 84 false := ⟨by kernel_rfl⟩
instance : TyZ Try.prog 84 (.nilFunc) := ⟨by kernel_rfl⟩
instance : TySz Try.prog 85 1 := ⟨by kernel_rfl⟩
instance : TyB Try.prog 85 8 := ⟨by kernel_rfl⟩
instance : Agg Try.prog 85 false := ⟨by kernel_rfl⟩
instance : TyZ Try.prog 85 (.nilFunc) := ⟨by kernel_rfl⟩
instance : TySz Try.prog 86 1 := ⟨by kernel_rfl⟩
instance : TyB Try.prog 86 24 := ⟨by kernel_rfl⟩
instance : Agg Try.prog 86 false := ⟨by kernel_rfl⟩
instance : TyU Try.prog 86 (.slice 79) := ⟨Try.underlying86⟩
instance : TyZ Try.prog 86 (.slice none 0 0) := ⟨by kernel_rfl⟩
instance : TySz Try.prog 87 1 := ⟨by kernel_rfl⟩
instance : TyB Try.prog 87 8 := ⟨by kernel_rfl⟩
instance : Agg Try.prog 87 false := ⟨by kernel_rfl⟩
instance : TyZ Try.prog 87 (.nilFunc) := ⟨by kernel_rfl⟩
instance : TySz Try.prog 88 1 := ⟨by kernel_rfl⟩
instance : TyB Try.prog 88 8 := ⟨by kernel_rfl⟩
instance : Agg Try.prog 88 false := ⟨by kernel_rfl⟩
instance : TyZ Try.prog 88 (.nilFunc) := ⟨by kernel_rfl⟩
instance : TySz Try.prog 89 1 := ⟨by kernel_rfl⟩
instance : TyB Try.prog 89 8 := ⟨by kernel_rfl⟩
instance : Agg Try.prog 89 false := ⟨by kernel_rfl⟩
instance : TyZ Try.prog 89 (.nilFunc) := ⟨by kernel_rfl⟩
instance : TySz Try.prog 90 1 := ⟨by kernel_rfl⟩
instance : TyB Try.prog 90 8 := ⟨by kernel_rfl⟩
instance : Agg Try.prog 90 false := ⟨by kernel_rfl⟩
instance : TyZ Try.prog 90 (.nilFunc) := ⟨by kernel_rfl⟩
instance : TySz Try.prog 91 1 := ⟨by kernel_rfl⟩
instance : TyB Try.prog 91 24 := ⟨by kernel_rfl⟩
instance : Agg Try.prog 91 false := ⟨by kernel_rfl⟩
instance : TyU Try.prog 91 (.slice 4) := ⟨Try.underlying91⟩
instance : TyZ Try.prog 91 (.slice none 0 0) := ⟨by kernel_rfl⟩
instance : TySz Try.prog 92 1 := ⟨by kernel_rfl⟩
instance : TyB Try.prog 92 8 := ⟨by kernel_rfl⟩
instance : Agg Try.prog 92 false := ⟨by kernel_rfl⟩
instance : TyZ Try.prog 92 (.nilFunc) := ⟨by kernel_rfl⟩
instance : TySz Try.prog 93 1 := ⟨by kernel_rfl⟩
instance : TyB Try.prog 93 24 := ⟨by kernel_rfl⟩
instance : Agg Try.prog 93 false := ⟨by kernel_rfl⟩
instance : TyU Try.prog 93 (.slice 54) := ⟨Try.underlying93⟩
instance : TyZ Try.prog 93 (.slice none 0 0) := ⟨by kernel_rfl⟩
instance : TySz Try.prog 94 5 := ⟨by kernel_rfl⟩
instance : TyB Try.prog 94 88 := ⟨by kernel_rfl⟩
instance : Agg Try.prog 94 true := ⟨by kernel_rfl⟩
instance : TyZ Try.prog 94 (.agg #[.slice none 0 0, .slice none 0 0, .slice none 0 0, .int .i64 0, .int .i64 0]) := ⟨by kernel_rfl⟩
instance : NotI Try.prog 94 := ⟨by kernel_rfl⟩
instance : TyF Try.prog 94 0 0 93 := ⟨⟨_, _, Try.underlying94, rfl, rfl, rfl⟩⟩
instance : TyF Try.prog 94 1 1 93 := ⟨⟨_, _, Try.underlying94, rfl, rfl, rfl⟩⟩
instance : TyF Try.prog 94 2 2 93 := ⟨⟨_, _, Try.underlying94, rfl, rfl, rfl⟩⟩
instance : TyF Try.prog 94 3 3 3 := ⟨⟨_, _, Try.underlying94, rfl, rfl, rfl⟩⟩
instance : TyF Try.prog 94 4 4 3 := ⟨⟨_, _, Try.underlying94, rfl, rfl, rfl⟩⟩
instance : TyPl Try.prog 94 [(0, 1), (1, 1), (2, 1), (3, 1), (4, 1)] := ⟨⟨_, Try.underlying94, by kernel_rfl⟩⟩
instance : TySz Try.prog 95 5 := ⟨by kernel_rfl⟩
instance : TyB Try.prog 95 88 := ⟨by kernel_rfl⟩
instance : Agg Try.prog 95 true := ⟨by kernel_rfl⟩
instance : TyZ Try.prog 95 (.agg #[.slice none 0 0, .slice none 0 0, .slice none 0 0, .int .i64 0, .int .i64 0]) := ⟨by kernel_rfl⟩
instance : NotI Try.prog 95 := ⟨by kernel_rfl⟩
instance : TyF Try.prog 95 0 0 93 := ⟨⟨_, _, Try.underlying95, rfl, rfl, rfl⟩⟩
instance : TyF Try.prog 95 1 1 93 := ⟨⟨_, _, Try.underlying95, rfl, rfl, rfl⟩⟩
instance : TyF Try.prog 95 2 2 93 := ⟨⟨_, _, Try.underlying95, rfl, rfl, rfl⟩⟩
instance : TyF Try.prog 95 3 3 3 := ⟨⟨_, _, Try.underlying95, rfl, rfl, rfl⟩⟩
instance : TyF Try.prog 95 4 4 3 := ⟨⟨_, _, Try.underlying95, rfl, rfl, rfl⟩⟩
instance : TyPl Try.prog 95 [(0, 1), (1, 1), (2, 1), (3, 1), (4, 1)] := ⟨⟨_, Try.underlying95, by kernel_rfl⟩⟩
instance : TySz Try.prog 96 1 := ⟨by kernel_rfl⟩
instance : TyB Try.prog 96 8 := ⟨by kernel_rfl⟩
instance : Agg Try.prog 96 false := ⟨by kernel_rfl⟩
instance : TyZ Try.prog 96 (.nilFunc) := ⟨by kernel_rfl⟩
instance : TySz Try.prog 97 1 := ⟨by kernel_rfl⟩
instance : TyB Try.prog 97 8 := ⟨by kernel_rfl⟩
instance : Agg Try.prog 97 false := ⟨by kernel_rfl⟩
instance : TyZ Try.prog 97 (.nilFunc) := ⟨by kernel_rfl⟩
instance : TySz Try.prog 98 1 := ⟨by kernel_rfl⟩
instance : TyB Try.prog 98 8 := ⟨by kernel_rfl⟩
instance : Agg Try.prog 98 false := ⟨by kernel_rfl⟩
instance : TyZ Try.prog 98 (.nilFunc) := ⟨by kernel_rfl⟩
instance : TySz Try.prog 99 1 := ⟨by kernel_rfl⟩
instance : TyB Try.prog 99 8 := ⟨by kernel_rfl⟩
instance : Agg Try.prog 99 false := ⟨by kernel_rfl⟩
instance : TyZ Try.prog 99 (.nilFunc) := ⟨by kernel_rfl⟩
instance : TySz Try.prog 100 1 := ⟨by kernel_rfl⟩
instance : TyB Try.prog 100 8 := ⟨by kernel_rfl⟩
instance : Agg Try.prog 100 false := ⟨by kernel_rfl⟩
instance : TyZ Try.prog 100 (.nilFunc) := ⟨by kernel_rfl⟩
instance : TySz Try.prog 101 1 := ⟨by kernel_rfl⟩
instance : TyB Try.prog 101 8 := ⟨by kernel_rfl⟩
instance : Agg Try.prog 101 false := ⟨by kernel_rfl⟩
instance : TyZ Try.prog 101 (.nilFunc) := ⟨by kernel_rfl⟩
instance : TySz Try.prog 102 1 := ⟨by kernel_rfl⟩
instance : TyB Try.prog 102 8 := ⟨by kernel_rfl⟩
instance : Agg Try.prog 102 false := ⟨by kernel_rfl⟩
instance : TyZ Try.prog 102 (.nilFunc) := ⟨by kernel_rfl⟩
instance : TySz Try.prog 103 1 := ⟨by kernel_rfl⟩
instance : TyB Try.prog 103 8 := ⟨by kernel_rfl⟩
instance : Agg Try.prog 103 false := ⟨by kernel_rfl⟩
instance : TyZ Try.prog 103 (.nilFunc) := ⟨by kernel_rfl⟩
instance : TySz Try.prog 104 1 := ⟨by kernel_rfl⟩
instance : TyB Try.prog 104 8 := ⟨by kernel_rfl⟩
instance : Agg Try.prog 104 false := ⟨by kernel_rfl⟩
instance : TyZ Try.prog 104 (.nilFunc) := ⟨by kernel_rfl⟩
instance : TySz Try.prog 105 1 := ⟨by kernel_rfl⟩
instance : TyB Try.prog 105 8 := ⟨by kernel_rfl⟩
instance : Agg Try.prog 105 false := ⟨by kernel_rfl⟩
instance : TyZ Try.prog 105 (.nilFunc) := ⟨by kernel_rfl⟩
instance : TySz Try.prog 107 1 := ⟨by kernel_rfl⟩
instance : TyB Try.prog 107 8 := ⟨by kernel_rfl⟩
instance : Agg Try.prog 107 false := ⟨by kernel_rfl⟩
instance : TyZ Try.prog 107 (.nilFunc) := ⟨by kernel_rfl⟩
instance : TySz Try.prog 108 1 := ⟨by kernel_rfl⟩
instance : TyB Try.prog 108 24 := ⟨by kernel_rfl⟩
instance : Agg Try.prog 108 false := ⟨by kernel_rfl⟩
instance : TyU Try.prog 108 (.slice 116) := ⟨Try.underlying108⟩
instance : TyZ Try.prog 108 (.slice none 0 0) := ⟨by kernel_rfl⟩
instance : TySz Try.prog 109 1 := ⟨by kernel_rfl⟩
instance : TyB Try.prog 109 24 := ⟨by kernel_rfl⟩
instance : Agg Try.prog 109 false := ⟨by kernel_rfl⟩
instance : TyU Try.prog 109 (.slice 116) := ⟨Try.underlying109⟩
instance : TyZ Try.prog 109 (.slice none 0 0) := ⟨by kernel_rfl⟩
instance : TySz Try.prog 110 2 := ⟨by kernel_rfl⟩
instance : TyB Try.prog 110 32 := ⟨by kernel_rfl⟩
instance : Agg Try.prog 110 true := ⟨by kernel_rfl⟩
instance : TyZ Try.prog 110 (.agg #[.slice none 0 0, .int .i64 0]) := ⟨by kernel_rfl⟩
instance : NotI Try.prog 110 := ⟨by kernel_rfl⟩
instance : TyF Try.prog 110 0 0 109 := ⟨⟨_, _, Try.underlying110, rfl, rfl, rfl⟩⟩
instance : TyF Try.prog 110 1 1 3 := ⟨⟨_, _, Try.underlying110, rfl, rfl, rfl⟩⟩
instance : TyPl Try.prog 110 [(0, 1), (1, 1)] := ⟨⟨_, Try.underlying110, by kernel_rfl⟩⟩
instance : TySz Try.prog 111 2 := ⟨by kernel_rfl⟩
instance : TyB Try.prog 111 32 := ⟨by kernel_rfl⟩
instance : Agg Try.prog 111 true := ⟨by kernel_rfl⟩
instance : TyZ Try.prog 111 (.agg #[.slice none 0 0, .int .i64 0]) := ⟨by kernel_rfl⟩
instance : NotI Try.prog 111 := ⟨by kernel_rfl⟩
instance : TyF Try.prog 111 0 0 109 := ⟨⟨_, _, Try.underlying111, rfl, rfl, rfl⟩⟩
instance : TyF Try.prog 111 1 1 3 := ⟨⟨_, _, Try.underlying111, rfl, rfl, rfl⟩⟩
instance : TyPl Try.prog 111 [(0, 1), (1, 1)] := ⟨⟨_, Try.underlying111, by kernel_rfl⟩⟩
instance : TySz Try.prog 112 1 := ⟨by kernel_rfl⟩
instance : TyB Try.prog 112 8 := ⟨by kernel_rfl⟩
instance : Agg Try.prog 112 false := ⟨by kernel_rfl⟩
instance : TyZ Try.prog 112 (.nilFunc) := ⟨by kernel_rfl⟩
instance : TySz Try.prog 113 1 := ⟨by kernel_rfl⟩
instance : TyB Try.prog 113 8 := ⟨by kernel_rfl⟩
instance : Agg Try.prog 113 false := ⟨by kernel_rfl⟩
instance : TyU Try.prog 113 (.pointer 109) := ⟨Try.underlying113⟩
instance : TyZ Try.prog 113 (.pointer none) := ⟨by kernel_rfl⟩
instance : TySz Try.prog 114 1 := ⟨by kernel_rfl⟩
instance : TyB Try.prog 114 8 := ⟨by kernel_rfl⟩
instance : Agg Try.prog 114 false := ⟨by kernel_rfl⟩
instance : TyZ Try.prog 114 (.nilFunc) := ⟨by kernel_rfl⟩
instance : TySz Try.prog 115 14 := ⟨by kernel_rfl⟩
instance : TyB Try.prog 115 112 := ⟨by kernel_rfl⟩
instance : Agg Try.prog 115 true := ⟨by kernel_rfl⟩
instance : TyZ Try.prog 115 (.agg #[.int .i64 0, .int .i32 0, .int .i64 0, .int .i64 0, .slice none 0 0, .int .i32 0, .int .i32 0, .int .i32 0, .int .i32 0, .int .i64 0, .int .i64 0, .int .u32 0, .int .i64 0, .int .i64 0]) := ⟨by kernel_rfl⟩
instance : NotI Try.prog 115 := ⟨by kernel_rfl⟩
instance : TyF Try.prog 115 0 0 79 := ⟨⟨_, _, Try.underlying115, rfl, rfl, rfl⟩⟩
instance : TyF Try.prog 115 1 13 3 := ⟨⟨_, _, Try.underlying115, rfl, rfl, rfl⟩⟩
instance : TyPl Try.prog 115 [(0, 13), (13, 1)] := ⟨⟨_, Try.underlying115, by kernel_rfl⟩⟩
instance : TySz Try.prog 116 14 := ⟨by kernel_rfl⟩
instance : TyB Try.prog 116 112 := ⟨by kernel_rfl⟩
instance : Agg Try.prog 116 true := ⟨by kernel_rfl⟩
instance : TyZ Try.prog 116 (.agg #[.int .i64 0, .int .i32 0, .int .i64 0, .int .i64 0, .slice none 0 0, .int .i32 0, .int .i32 0, .int .i32 0, .int .i32 0, .int .i64 0, .int .i64 0, .int .u32 0, .int .i64 0, .int .i64 0]) := ⟨by kernel_rfl⟩
instance : NotI Try.prog 116 := ⟨by kernel_rfl⟩
instance : TyF Try.prog 116 0 0 79 := ⟨⟨_, _, Try.underlying116, rfl, rfl, rfl⟩⟩
instance : TyF Try.prog 116 1 13 3 := ⟨⟨_, _, Try.underlying116, rfl, rfl, rfl⟩⟩
instance : TyPl Try.prog 116 [(0, 13), (13, 1)] := ⟨⟨_, Try.underlying116, by kernel_rfl⟩⟩
instance : TySz Try.prog 117 1 := ⟨by kernel_rfl⟩
instance : TyB Try.prog 117 8 := ⟨by kernel_rfl⟩
instance : Agg Try.prog 117 false := ⟨by kernel_rfl⟩
instance : TyZ Try.prog 117 (.nilFunc) := ⟨by kernel_rfl⟩
instance : TySz Try.prog 118 1 := ⟨by kernel_rfl⟩
instance : TyB Try.prog 118 8 := ⟨by kernel_rfl⟩
instance : Agg Try.prog 118 false := ⟨by kernel_rfl⟩
instance : TyZ Try.prog 118 (.nilFunc) := ⟨by kernel_rfl⟩
instance : TySz Try.prog 119 1 := ⟨by kernel_rfl⟩
instance : TyB Try.prog 119 8 := ⟨by kernel_rfl⟩
instance : Agg Try.prog 119 false := ⟨by kernel_rfl⟩
instance : TyZ Try.prog 119 (.nilFunc) := ⟨by kernel_rfl⟩
instance : TySz Try.prog 120 1 := ⟨by kernel_rfl⟩
instance : TyB Try.prog 120 8 := ⟨by kernel_rfl⟩
instance : Agg Try.prog 120 false := ⟨by kernel_rfl⟩
instance : TyZ Try.prog 120 (.nilFunc) := ⟨by kernel_rfl⟩
instance : TySz Try.prog 121 1 := ⟨by kernel_rfl⟩
instance : TyB Try.prog 121 8 := ⟨by kernel_rfl⟩
instance : Agg Try.prog 121 false := ⟨by kernel_rfl⟩
instance : TyZ Try.prog 121 (.nilFunc) := ⟨by kernel_rfl⟩
instance : TySz Try.prog 122 1 := ⟨by kernel_rfl⟩
instance : TyB Try.prog 122 8 := ⟨by kernel_rfl⟩
instance : Agg Try.prog 122 false := ⟨by kernel_rfl⟩
instance : TyZ Try.prog 122 (.nilFunc) := ⟨by kernel_rfl⟩
instance : TySz Try.prog 123 1 := ⟨by kernel_rfl⟩
instance : TyB Try.prog 123 8 := ⟨by kernel_rfl⟩
instance : Agg Try.prog 123 false := ⟨by kernel_rfl⟩
instance : TyZ Try.prog 123 (.nilFunc) := ⟨by kernel_rfl⟩
instance : TySz Try.prog 124 1 := ⟨by kernel_rfl⟩
instance : TyB Try.prog 124 8 := ⟨by kernel_rfl⟩
instance : Agg Try.prog 124 false := ⟨by kernel_rfl⟩
instance : TyZ Try.prog 124 (.nilFunc) := ⟨by kernel_rfl⟩
instance : TySz Try.prog 125 1 := ⟨by kernel_rfl⟩
instance : TyB Try.prog 125 8 := ⟨by kernel_rfl⟩
instance : Agg Try.prog 125 false := ⟨by kernel_rfl⟩
instance : TyZ Try.prog 125 (.nilFunc) := ⟨by kernel_rfl⟩
instance : TySz Try.prog 126 1 := ⟨by kernel_rfl⟩
instance : TyB Try.prog 126 8 := ⟨by kernel_rfl⟩
instance : Agg Try.prog 126 false := ⟨by kernel_rfl⟩
instance : TyZ Try.prog 126 (.nilFunc) := ⟨by kernel_rfl⟩
instance : TySz Try.prog 127 1 := ⟨by kernel_rfl⟩
instance : TyB Try.prog 127 8 := ⟨by kernel_rfl⟩
instance : Agg Try.prog 127 false := ⟨by kernel_rfl⟩
instance : TyZ Try.prog 127 (.nilFunc) := ⟨by kernel_rfl⟩
instance : TySz Try.prog 128 1 := ⟨by kernel_rfl⟩
instance : TyB Try.prog 128 8 := ⟨by kernel_rfl⟩
instance : Agg Try.prog 128 false := ⟨by kernel_rfl⟩
instance : TyZ Try.prog 128 (.nilFunc) := ⟨by kernel_rfl⟩
instance : TySz Try.prog 129 1 := ⟨by kernel_rfl⟩
instance : TyB Try.prog 129 8 := ⟨by kernel_rfl⟩
instance : Agg Try.prog 129 false := ⟨by kernel_rfl⟩
instance : TyZ Try.prog 129 (.nilFunc) := ⟨by kernel_rfl⟩
instance : TySz Try.prog 130 1 := ⟨by kernel_rfl⟩
instance : TyB Try.prog 130 8 := ⟨by kernel_rfl⟩
instance : Agg Try.prog 130 false := ⟨by kernel_rfl⟩
instance : TyZ Try.prog 130 (.nilFunc) := ⟨by kernel_rfl⟩
instance : TySz Try.prog 131 1 := ⟨by kernel_rfl⟩
instance : TyB Try.prog 131 8 := ⟨by kernel_rfl⟩
instance : Agg Try.prog 131 false := ⟨by kernel_rfl⟩
instance : TyZ Try.prog 131 (.nilFunc) := ⟨by kernel_rfl⟩
instance : TySz Try.prog 132 1 := ⟨by kernel_rfl⟩
instance : TyB Try.prog 132 8 := ⟨by kernel_rfl⟩
instance : Agg Try.prog 132 false := ⟨by kernel_rfl⟩
instance : TyZ Try.prog 132 (.nilFunc) := ⟨by kernel_rfl⟩
instance : TySz Try.prog 133 1 := ⟨by kernel_rfl⟩
instance : TyB Try.prog 133 8 := ⟨by kernel_rfl⟩
instance : Agg Try.prog 133 false := ⟨by kernel_rfl⟩
instance : TyZ Try.prog 133 (.nilFunc) := ⟨by kernel_rfl⟩
instance : TySz Try.prog 134 1 := ⟨by kernel_rfl⟩
instance : TyB Try.prog 134 8 := ⟨by kernel_rfl⟩
instance : Agg Try.prog 134 false := ⟨by kernel_rfl⟩
instance : TyZ Try.prog 134 (.nilFunc) := ⟨by kernel_rfl⟩
instance : TySz Try.prog 135 1 := ⟨by kernel_rfl⟩
instance : TyB Try.prog 135 8 := ⟨by kernel_rfl⟩
instance : Agg Try.prog 135 false := ⟨by kernel_rfl⟩
instance : TyZ Try.prog 135 (.nilFunc) := ⟨by kernel_rfl⟩
instance : TySz Try.prog 136 1 := ⟨by kernel_rfl⟩
instance : TyB Try.prog 136 8 := ⟨by kernel_rfl⟩
instance : Agg Try.prog 136 false := ⟨by kernel_rfl⟩
instance : TyZ Try.prog 136 (.nilFunc) := ⟨by kernel_rfl⟩
instance : TySz Try.prog 137 1 := ⟨by kernel_rfl⟩
instance : TyB Try.prog 137 8 := ⟨by kernel_rfl⟩
instance : Agg Try.prog 137 false := ⟨by kernel_rfl⟩
instance : TyZ Try.prog 137 (.nilFunc) := ⟨by kernel_rfl⟩
instance : TySz Try.prog 138 1 := ⟨by kernel_rfl⟩
instance : TyB Try.prog 138 8 := ⟨by kernel_rfl⟩
instance : Agg Try.prog 138 false := ⟨by kernel_rfl⟩
instance : TyU Try.prog 138 (.map 3 3) := ⟨Try.underlying138⟩
instance : TyZ Try.prog 138 (.map none) := ⟨by kernel_rfl⟩
instance : TySz Try.prog 139 1 := ⟨by kernel_rfl⟩
instance : TyB Try.prog 139 8 := ⟨by kernel_rfl⟩
instance : Agg Try.prog 139 false := ⟨by kernel_rfl⟩
instance : TyZ Try.prog 139 (.nilFunc) := ⟨by kernel_rfl⟩
instance : TySz Try.prog 140 1 := ⟨by kernel_rfl⟩
instance : TyB Try.prog 140 8 := ⟨by kernel_rfl⟩
instance : Agg Try.prog 140 false := ⟨by kernel_rfl⟩
instance : TyZ Try.prog 140 (.nilFunc) := ⟨by kernel_rfl⟩
instance : TySz Try.prog 142 1 := ⟨by kernel_rfl⟩
instance : TyB Try.prog 142 8 := ⟨by kernel_rfl⟩
instance : Agg Try.prog 142 false := ⟨by kernel_rfl⟩
instance : TyZ Try.prog 142 (.nilFunc) := ⟨by kernel_rfl⟩
instance : TySz Try.prog 143 1 := ⟨by kernel_rfl⟩
instance : TyB Try.prog 143 16 := ⟨by kernel_rfl⟩
instance : Agg Try.prog 143 false := ⟨by kernel_rfl⟩
instance : TyZ Try.prog 143 (.nilIface) := ⟨by kernel_rfl⟩
instance : TySz Try.prog 144 1 := ⟨by kernel_rfl⟩
instance : TyB Try.prog 144 16 := ⟨by kernel_rfl⟩
instance : Agg Try.prog 144 false := ⟨by kernel_rfl⟩
instance : TyZ Try.prog 144 (.nilIface) := ⟨by kernel_rfl⟩
instance : TySz Try.prog 145 1 := ⟨by kernel_rfl⟩
instance : TyB Try.prog 145 8 := ⟨by kernel_rfl⟩
instance : Agg Try.prog 145 false := ⟨by kernel_rfl⟩
instance : TyZ Try.prog 145 (.nilFunc) := ⟨by kernel_rfl⟩
instance : TySz Try.prog 146 1 := ⟨by kernel_rfl⟩
instance : TyB Try.prog 146 8 := ⟨by kernel_rfl⟩
instance : Agg Try.prog 146 false := ⟨by kernel_rfl⟩
instance : TyZ Try.prog 146 (.nilFunc) := ⟨by kernel_rfl⟩
instance : TySz Try.prog 147 1 := ⟨by kernel_rfl⟩
instance : TyB Try.prog 147 8 := ⟨by kernel_rfl⟩
instance : Agg Try.prog 147 false := ⟨by kernel_rfl⟩
instance : TyZ Try.prog 147 (.nilFunc) := ⟨by kernel_rfl⟩
instance : TySz Try.prog 148 1 := ⟨by kernel_rfl⟩
instance : TyB Try.prog 148 8 := ⟨by kernel_rfl⟩
instance : Agg Try.prog 148 false := ⟨by kernel_rfl⟩
instance : TyZ Try.prog 148 (.nilFunc) := ⟨by kernel_rfl⟩
instance : TySz Try.prog 149 1 := ⟨by kernel_rfl⟩
instance : TyB Try.prog 149 8 := ⟨by kernel_rfl⟩
instance : Agg Try.prog 149 false := ⟨by kernel_rfl⟩
instance : TyZ Try.prog 149 (.nilFunc) := ⟨by kernel_rfl⟩
instance : TySz Try.prog 150 1 := ⟨by kernel_rfl⟩
instance : TyB Try.prog 150 8 := ⟨by kernel_rfl⟩
instance : Agg Try.prog 150 false := ⟨by kernel_rfl⟩
instance : TyZ Try.prog 150 (.nilFunc) := ⟨by kernel_rfl⟩
instance : TySz Try.prog 151 1 := ⟨by kernel_rfl⟩
instance : TyB Try.prog 151 8 := ⟨by kernel_rfl⟩
instance : Agg Try.prog 151 false := ⟨by kernel_rfl⟩
instance : TyZ Try.prog 151 (.nilFunc) := ⟨by kernel_rfl⟩
instance : TySz Try.prog 152 1 := ⟨by kernel_rfl⟩
instance : TyB Try.prog 152 8 := ⟨by kernel_rfl⟩
instance : Agg Try.prog 152 false := ⟨by kernel_rfl⟩
instance : TyZ Try.prog 152 (.nilFunc) := ⟨by kernel_rfl⟩
instance : TySz Try.prog 153 1 := ⟨by kernel_rfl⟩
instance : TyB Try.prog 153 8 := ⟨by kernel_rfl⟩
instance : Agg Try.prog 153 false := ⟨by kernel_rfl⟩
instance : TyU Try.prog 153 (.int .u64) := ⟨Try.underlying153⟩
instance : TyZ Try.prog 153 (.int .u64 0) := ⟨by kernel_rfl⟩
instance : TySz Try.prog 154 1 := ⟨by kernel_rfl⟩
instance : TyB Try.prog 154 8 := ⟨by kernel_rfl⟩
instance : Agg Try.prog 154 false := ⟨by kernel_rfl⟩
instance : TyZ Try.prog 154 (.nilFunc) := ⟨by kernel_rfl⟩
instance : TySz Try.prog 155 1 := ⟨by kernel_rfl⟩
instance : TyB Try.prog 155 8 := ⟨by kernel_rfl⟩
instance : Agg Try.prog 155 false := ⟨by kernel_rfl⟩
instance : TyZ Try.prog 155 (.nilFunc) := ⟨by kernel_rfl⟩
instance : TySz Try.prog 156 1 := ⟨by kernel_rfl⟩
instance : TyB Try.prog 156 8 := ⟨by kernel_rfl⟩
instance : Agg Try.prog 156 false := ⟨by kernel_rfl⟩
instance : TyZ Try.prog 156 (.nilFunc) := ⟨by kernel_rfl⟩
instance : TySz Try.prog 157 1 := ⟨by kernel_rfl⟩
instance : TyB Try.prog 157 8 := ⟨by kernel_rfl⟩
instance : Agg Try.prog 157 false := ⟨by kernel_rfl⟩
instance : TyZ Try.prog 157 (.nilFunc) := ⟨by kernel_rfl⟩
instance : TySz Try.prog 158 1 := ⟨by kernel_rfl⟩
instance : TyB Try.prog 158 8 := ⟨by kernel_rfl⟩
instance : Agg Try.prog 158 false := ⟨by kernel_rfl⟩
instance : TyZ Try.prog 158 (.nilFunc) := ⟨by kernel_rfl⟩
instance : TySz Try.prog 159 1 := ⟨by kernel_rfl⟩
instance : TyB Try.prog 159 8 := ⟨by kernel_rfl⟩
instance : Agg Try.prog 159 false := ⟨by kernel_rfl⟩
instance : TyZ Try.prog 159 (.nilFunc) := ⟨by kernel_rfl⟩
instance : TySz Try.prog 160 1 := ⟨by kernel_rfl⟩
instance : TyB Try.prog 160 8 := ⟨by kernel_rfl⟩
instance : Agg Try.prog 160 false := ⟨by kernel_rfl⟩
instance : TyZ Try.prog 160 (.nilFunc) := ⟨by kernel_rfl⟩
instance : TySz Try.prog 161 1 := ⟨by kernel_rfl⟩
instance : TyB Try.prog 161 4 := ⟨by kernel_rfl⟩
instance : Agg Try.prog 161 false := ⟨by kernel_rfl⟩
instance : TyU Try.prog 161 (.int .i32) := ⟨Try.underlying161⟩
instance : TyZ Try.prog 161 (.int .i32 0) := ⟨by kernel_rfl⟩
instance : TySz Try.prog 162 1 := ⟨by kernel_rfl⟩
instance : TyB Try.prog 162 8 := ⟨by kernel_rfl⟩
instance : Agg Try.prog 162 false := ⟨by kernel_rfl⟩
instance : TyZ Try.prog 162 (.nilFunc) := ⟨by kernel_rfl⟩
instance : TySz Try.prog 163 1 := ⟨by kernel_rfl⟩
instance : TyB Try.prog 163 8 := ⟨by kernel_rfl⟩
instance : Agg Try.prog 163 false := ⟨by kernel_rfl⟩
instance : TyZ Try.prog 163 (.nilFunc) := ⟨by kernel_rfl⟩
instance : TySz Try.prog 164 1 := ⟨by kernel_rfl⟩
instance : TyB Try.prog 164 8 := ⟨by kernel_rfl⟩
instance : Agg Try.prog 164 false := ⟨by kernel_rfl⟩
instance : TyZ Try.prog 164 (.nilFunc) := ⟨by kernel_rfl⟩
instance : TySz Try.prog 165 1 := ⟨by kernel_rfl⟩
instance : TyB Try.prog 165 8 := ⟨by kernel_rfl⟩
instance : Agg Try.prog 165 false := ⟨by kernel_rfl⟩
instance : TyZ Try.prog 165 (.nilFunc) := ⟨by kernel_rfl⟩
instance : TySz Try.prog 166 1 := ⟨by kernel_rfl⟩
instance : TyB Try.prog 166 8 := ⟨by kernel_rfl⟩
instance : Agg Try.prog 166 false := ⟨by kernel_rfl⟩
instance : TyU Try.prog 166 (.int .i64) := ⟨Try.underlying166⟩
instance : TyZ Try.prog 166 (.int .i64 0) := ⟨by kernel_rfl⟩
instance : TySz Try.prog 168 1 := ⟨by kernel_rfl⟩
instance : TyB Try.prog 168 8 := ⟨by kernel_rfl⟩
instance : Agg Try.prog 168 false := ⟨by kernel_rfl⟩
instance : TyZ Try.prog 168 (.nilFunc) := ⟨by kernel_rfl⟩
instance : TySz Try.prog 169 1 := ⟨by kernel_rfl⟩
instance : TyB Try.prog 169 8 := ⟨by kernel_rfl⟩
instance : Agg Try.prog 169 false := ⟨by kernel_rfl⟩
instance : TyZ Try.prog 169 (.nilFunc) := ⟨by kernel_rfl⟩
instance : TySz Try.prog 170 1 := ⟨by kernel_rfl⟩
instance : TyB Try.prog 170 8 := ⟨by kernel_rfl⟩
instance : Agg Try.prog 170 false := ⟨by kernel_rfl⟩
instance : TyZ Try.prog 170 (.nilFunc) := ⟨by kernel_rfl⟩
instance : TySz Try.prog 171 1 := ⟨by kernel_rfl⟩
instance : TyB Try.prog 171 8 := ⟨by kernel_rfl⟩
instance : Agg Try.prog 171 false := ⟨by kernel_rfl⟩
instance : TyZ Try.prog 171 (.nilFunc) := ⟨by kernel_rfl⟩
instance : TySz Try.prog 172 1 := ⟨by kernel_rfl⟩
instance : TyB Try.prog 172 8 := ⟨by kernel_rfl⟩
instance : Agg Try.prog 172 false := ⟨by kernel_rfl⟩
instance : TyZ Try.prog 172 (.nilFunc) := ⟨by kernel_rfl⟩
instance : TySz Try.prog 173 1 := ⟨by kernel_rfl⟩
instance : TyB Try.prog 173 8 := ⟨by kernel_rfl⟩
instance : Agg Try.prog 173 false := ⟨by kernel_rfl⟩
instance : TyZ Try.prog 173 (.nilFunc) := ⟨by kernel_rfl⟩
instance : TySz Try.prog 174 1 := ⟨by kernel_rfl⟩
instance : TyB Try.prog 174 8 := ⟨by kernel_rfl⟩
instance : Agg Try.prog 174 false := ⟨by kernel_rfl⟩
instance : TyU Try.prog 174 (.int .u64) := ⟨Try.underlying174⟩
instance : TyZ Try.prog 174 (.int .u64 0) := ⟨by kernel_rfl⟩
instance : TySz Try.prog 175 1 := ⟨by kernel_rfl⟩
instance : TyB Try.prog 175 8 := ⟨by kernel_rfl⟩
instance : Agg Try.prog 175 false := ⟨by kernel_rfl⟩
instance : TyZ Try.prog 175 (.nilFunc) := ⟨by kernel_rfl⟩
instance : TySz Try.prog 176 1 := ⟨by kernel_rfl⟩
instance : TyB Try.prog 176 8 := ⟨by kernel_rfl⟩
instance : Agg Try.prog 176 false := ⟨by kernel_rfl⟩
instance : TyU Try.prog 176 (.int .u64) := ⟨Try.underlying176⟩
instance : TyZ Try.prog 176 (.int .u64 0) := ⟨by kernel_rfl⟩
instance : TySz Try.prog 177 1 := ⟨by kernel_rfl⟩
instance : TyB Try.prog 177 8 := ⟨by kernel_rfl⟩
instance : Agg Try.prog 177 false := ⟨by kernel_rfl⟩
instance : TyZ Try.prog 177 (.nilFunc) := ⟨by kernel_rfl⟩
instance : TySz Try.prog 178 1 := ⟨by kernel_rfl⟩
instance : TyB Try.prog 178 8 := ⟨by kernel_rfl⟩
instance : Agg Try.prog 178 false := ⟨by kernel_rfl⟩
instance : TyZ Try.prog 178 (.nilFunc) := ⟨by kernel_rfl⟩
instance : TySz Try.prog 179 1 := ⟨by kernel_rfl⟩
instance : TyB Try.prog 179 8 := ⟨by kernel_rfl⟩
instance : Agg Try.prog 179 false := ⟨by kernel_rfl⟩
instance : TyZ Try.prog 179 (.nilFunc) := ⟨by kernel_rfl⟩
instance : TySz Try.prog 180 1 := ⟨by kernel_rfl⟩
instance : TyB Try.prog 180 8 := ⟨by kernel_rfl⟩
instance : Agg Try.prog 180 false := ⟨by kernel_rfl⟩
instance : TyU Try.prog 180 (.pointer 3) := ⟨Try.underlying180⟩
instance : TyZ Try.prog 180 (.pointer none) := ⟨by kernel_rfl⟩
instance : TySz Try.prog 181 1 := ⟨by kernel_rfl⟩
instance : TyB Try.prog 181 8 := ⟨by kernel_rfl⟩
instance : Agg Try.prog 181 false := ⟨by kernel_rfl⟩
instance : TyZ Try.prog 181 (.nilFunc) := ⟨by kernel_rfl⟩
instance : TySz Try.prog 182 1 := ⟨by kernel_rfl⟩
instance : TyB Try.prog 182 8 := ⟨by kernel_rfl⟩
instance : Agg Try.prog 182 false := ⟨by kernel_rfl⟩
instance : TyU Try.prog 182 (.pointer 176) := ⟨Try.underlying182⟩
instance : TyZ Try.prog 182 (.pointer none) := ⟨by kernel_rfl⟩
instance : TySz Try.prog 183 1 := ⟨by kernel_rfl⟩
instance : TyB Try.prog 183 8 := ⟨by kernel_rfl⟩
instance : Agg Try.prog 183 false := ⟨by kernel_rfl⟩
instance : TyZ Try.prog 183 (.nilFunc) := ⟨by kernel_rfl⟩
instance : TySz Try.prog 184 1 := ⟨by kernel_rfl⟩
instance : TyB Try.prog 184 8 := ⟨by kernel_rfl⟩
instance : Agg Try.prog 184 false := ⟨by kernel_rfl⟩
instance : TyZ Try.prog 184 (.nilFunc) := ⟨by kernel_rfl⟩
instance : TySz Try.prog 193 1 := ⟨by kernel_rfl⟩
instance : TyB Try.prog 193 8 := ⟨by kernel_rfl⟩
instance : Agg Try.prog 193 false := ⟨by kernel_rfl⟩
instance : TyU Try.prog 193 (.pointer 5) := ⟨Try.underlying193⟩
instance : TyZ Try.prog 193 (.pointer none) := ⟨by kernel_rfl⟩
instance : Meth Try.prog 28 "Bottom" 63 true := ⟨by kernel_rfl⟩
instance : Meth Try.prog 28 "Join" 52 true := ⟨by kernel_rfl⟩
instance : Meth Try.prog 28 "Len" 62 true := ⟨by kernel_rfl⟩
instance : Meth Try.prog 28 "Meet" 53 true := ⟨by kernel_rfl⟩
instance : Meth Try.prog 65 "All" 39 true := ⟨by kernel_rfl⟩
instance : Meth Try.prog 65 "Len" 40 true := ⟨by kernel_rfl⟩
instance : Meth Try.prog 65 "Pop" 36 true := ⟨by kernel_rfl⟩
instance : Meth Try.prog 65 "Push" 34 true := ⟨by kernel_rfl⟩
instance : Meth Try.prog 67 "Pop" 37 true := ⟨by kernel_rfl⟩
instance : Meth Try.prog 67 "Push" 35 true := ⟨by kernel_rfl⟩
instance : Meth Try.prog 113 "Len" 162 false := ⟨by kernel_rfl⟩
instance : Meth Try.prog 113 "Less" 163 false := ⟨by kernel_rfl⟩
instance : Meth Try.prog 113 "Pop" 165 true := ⟨by kernel_rfl⟩
instance : Meth Try.prog 113 "Push" 166 true := ⟨by kernel_rfl⟩
instance : Meth Try.prog 113 "Swap" 164 false := ⟨by kernel_rfl⟩
instance : Meth Try.prog 182 "Next" 142 true := ⟨by kernel_rfl⟩
instance : HasF Try.prog 2 := ⟨by kernel_rfl⟩
instance : HasF Try.prog 3 := ⟨by kernel_rfl⟩
instance : HasF Try.prog 4 := ⟨by kernel_rfl⟩
instance : HasF Try.prog 5 := ⟨by kernel_rfl⟩
instance : HasF Try.prog 6 := ⟨by kernel_rfl⟩
instance : HasF Try.prog 7 := ⟨by kernel_rfl⟩
instance : HasF Try.prog 8 := ⟨by kernel_rfl⟩
instance : HasF Try.prog 9 := ⟨by kernel_rfl⟩
instance : HasF Try.prog 10 := ⟨by kernel_rfl⟩
instance : HasF Try.prog 11 := ⟨by kernel_rfl⟩
instance : HasF Try.prog 12 := ⟨by kernel_rfl⟩
instance : HasF Try.prog 13 := ⟨by kernel_rfl⟩
instance : HasF Try.prog 14 := ⟨by kernel_rfl⟩
instance : HasF Try.prog 15 := ⟨by kernel_rfl⟩
instance : HasF Try.prog 16 := ⟨by kernel_rfl⟩
instance : HasF Try.prog 17 := ⟨by kernel_rfl⟩
instance : HasF Try.prog 18 := ⟨by kernel_rfl⟩
instance : HasF Try.prog 19 := ⟨by kernel_rfl⟩
instance : HasF Try.prog 20 := ⟨by kernel_rfl⟩
instance : HasF Try.prog 21 := ⟨by kernel_rfl⟩
instance : HasF Try.prog 22 := ⟨by kernel_rfl⟩
instance : HasF Try.prog 23 := ⟨by kernel_rfl⟩
instance : HasF Try.prog 24 := ⟨by kernel_rfl⟩
instance : HasF Try.prog 25 := ⟨by kernel_rfl⟩
instance : HasF Try.prog 26 := ⟨by kernel_rfl⟩
instance : HasF Try.prog 27 := ⟨by kernel_rfl⟩
instance : HasF Try.prog 28 := ⟨by kernel_rfl⟩
instance : HasF Try.prog 29 := ⟨by kernel_rfl⟩
instance : HasF Try.prog 30 := ⟨by kernel_rfl⟩
instance : HasF Try.prog 31 := ⟨by kernel_rfl⟩
instance : HasF Try.prog 32 := ⟨by kernel_rfl⟩
instance : HasF Try.prog 33 := ⟨by kernel_rfl⟩
instance : HasF Try.prog 34 := ⟨by kernel_rfl⟩
instance : HasF Try.prog 35 := ⟨by kernel_rfl⟩
instance : HasF Try.prog 36 := ⟨by kernel_rfl⟩
instance : HasF Try.prog 37 := ⟨by kernel_rfl⟩
instance : HasF Try.prog 38 := ⟨by kernel_rfl⟩
instance : HasF Try.prog 39 := ⟨by kernel_rfl⟩
instance : HasF Try.prog 40 := ⟨by kernel_rfl⟩
instance : HasF Try.prog 41 := ⟨by kernel_rfl⟩
instance : HasF Try.prog 42 := ⟨by kernel_rfl⟩
instance : HasF Try.prog 43 := ⟨by kernel_rfl⟩
instance : HasF Try.prog 44 := ⟨by kernel_rfl⟩
instance : HasF Try.prog 45 := ⟨by kernel_rfl⟩
instance : HasF Try.prog 46 := ⟨by kernel_rfl⟩
instance : HasF Try.prog 47 := ⟨by kernel_rfl⟩
instance : HasF Try.prog 48 := ⟨by kernel_rfl⟩
instance : HasF Try.prog 49 := ⟨by kernel_rfl⟩
instance : HasF Try.prog 50 := ⟨by kernel_rfl⟩
instance : HasF Try.prog 51 := ⟨by kernel_rfl⟩
instance : HasF Try.prog 52 := ⟨by kernel_rfl⟩
instance : HasF Try.prog 53 := ⟨by kernel_rfl⟩
instance : HasF Try.prog 54 := ⟨by kernel_rfl⟩
instance : HasF Try.prog 55 := ⟨by kernel_rfl⟩
instance : HasF Try.prog 56 := ⟨by kernel_rfl⟩
instance : HasF Try.prog 57 := ⟨by kernel_rfl⟩
instance : HasF Try.prog 58 := ⟨by kernel_rfl⟩
instance : HasF Try.prog 59 := ⟨by kernel_rfl⟩
instance : HasF Try.prog 60 := ⟨by kernel_rfl⟩
instance : HasF Try.prog 61 := ⟨by kernel_rfl⟩
instance : HasF Try.prog 62 := ⟨by kernel_rfl⟩
instance : HasF Try.prog 63 := ⟨by kernel_rfl⟩
instance : HasF Try.prog 64 := ⟨by kernel_rfl⟩
instance : HasF Try.prog 65 := ⟨by kernel_rfl⟩
instance : HasF Try.prog 66 := ⟨by kernel_rfl⟩
instance : HasF Try.prog 67 := ⟨by kernel_rfl⟩
instance : HasF Try.prog 68 := ⟨by kernel_rfl⟩
instance : HasF Try.prog 69 := ⟨by kernel_rfl⟩
instance : HasF Try.prog 70 := ⟨by kernel_rfl⟩
instance : HasF Try.prog 71 := ⟨by kernel_rfl⟩
instance : HasF Try.prog 72 := ⟨by kernel_rfl⟩
instance : HasF Try.prog 73 := ⟨by kernel_rfl⟩
instance : HasF Try.prog 74 := ⟨by kernel_rfl⟩
instance : HasF Try.prog 75 := ⟨by kernel_rfl⟩
instance : HasF Try.prog 76 := ⟨by kernel_rfl⟩
instance : HasF Try.prog 77 := ⟨by kernel_rfl⟩
instance : HasF Try.prog 78 := ⟨by kernel_rfl⟩
instance : HasF Try.prog 79 := ⟨by kernel_rfl⟩
instance : HasF Try.prog 80 := ⟨by kernel_rfl⟩
instance : HasF Try.prog 81 := ⟨by kernel_rfl⟩
instance : HasF Try.prog 82 := ⟨by kernel_rfl⟩
instance : HasF Try.prog 83 := ⟨by kernel_rfl⟩
instance : HasF Try.prog 84 := ⟨by kernel_rfl⟩
instance : HasF Try.prog 85 := ⟨by kernel_rfl⟩
instance : HasF Try.prog 86 := ⟨by kernel_rfl⟩
instance : HasF Try.prog 87 := ⟨by kernel_rfl⟩
instance : HasF Try.prog 88 := ⟨by kernel_rfl⟩
instance : HasF Try.prog 89 := ⟨by kernel_rfl⟩
instance : HasF Try.prog 90 := ⟨by kernel_rfl⟩
instance : HasF Try.prog 91 := ⟨by kernel_rfl⟩
instance : HasF Try.prog 92 := ⟨by kernel_rfl⟩
instance : HasF Try.prog 93 := ⟨by kernel_rfl⟩
instance : HasF Try.prog 94 := ⟨by kernel_rfl⟩
instance : HasF Try.prog 95 := ⟨by kernel_rfl⟩
instance : HasF Try.prog 96 := ⟨by kernel_rfl⟩
instance : HasF Try.prog 97 := ⟨by kernel_rfl⟩
instance : HasF Try.prog 98 := ⟨by kernel_rfl⟩
instance : HasF Try.prog 99 := ⟨by kernel_rfl⟩
instance : HasF Try.prog 100 := ⟨by kernel_rfl⟩
instance : HasF Try.prog 101 := ⟨by kernel_rfl⟩
instance : HasF Try.prog 102 := ⟨by kernel_rfl⟩
instance : HasF Try.prog 103 := ⟨by kernel_rfl⟩
instance : HasF Try.prog 104 := ⟨by kernel_rfl⟩
instance : HasF Try.prog 105 := ⟨by kernel_rfl⟩
instance : HasF Try.prog 106 := ⟨by kernel_rfl⟩
instance : HasF Try.prog 107 := ⟨by kernel_rfl⟩
instance : HasF Try.prog 108 := ⟨by kernel_rfl⟩
instance : HasF Try.prog 109 := ⟨by kernel_rfl⟩
instance : HasF Try.prog 110 := ⟨by kernel_rfl⟩
instance : HasF Try.prog 111 := ⟨by kernel_rfl⟩
instance : HasF Try.prog 112 := ⟨by kernel_rfl⟩
instance : HasF Try.prog 113 := ⟨by kernel_rfl⟩
instance : HasF Try.prog 114 := ⟨by kernel_rfl⟩
instance : HasF Try.prog 115 := ⟨by kernel_rfl⟩
instance : HasF Try.prog 116 := ⟨by kernel_rfl⟩
instance : HasF Try.prog 117 := ⟨by kernel_rfl⟩
instance : HasF Try.prog 118 := ⟨by kernel_rfl⟩
instance : HasF Try.prog 119 := ⟨by kernel_rfl⟩
instance : HasF Try.prog 120 := ⟨by kernel_rfl⟩
instance : HasF Try.prog 121 := ⟨by kernel_rfl⟩
instance : HasF Try.prog 122 := ⟨by kernel_rfl⟩
instance : HasF Try.prog 123 := ⟨by kernel_rfl⟩
instance : HasF Try.prog 124 := ⟨by kernel_rfl⟩
instance : HasF Try.prog 125 := ⟨by kernel_rfl⟩
instance : HasF Try.prog 126 := ⟨by kernel_rfl⟩
instance : HasF Try.prog 127 := ⟨by kernel_rfl⟩
instance : HasF Try.prog 128 := ⟨by kernel_rfl⟩
instance : HasF Try.prog 129 := ⟨by kernel_rfl⟩
instance : HasF Try.prog 130 := ⟨by kernel_rfl⟩
instance : HasF Try.prog 131 := ⟨by kernel_rfl⟩
instance : HasF Try.prog 132 := ⟨by kernel_rfl⟩
instance : HasF Try.prog 133 := ⟨by kernel_rfl⟩
instance : HasF Try.prog 134 := ⟨by kernel_rfl⟩
instance : HasF Try.prog 135 := ⟨by kernel_rfl⟩
instance : HasF Try.prog 136 := ⟨by kernel_rfl⟩
instance : HasF Try.prog 137 := ⟨by kernel_rfl⟩
instance : HasF Try.prog 138 := ⟨by kernel_rfl⟩
instance : HasF Try.prog 139 := ⟨by kernel_rfl⟩
instance : HasF Try.prog 140 := ⟨by kernel_rfl⟩
instance : HasF Try.prog 141 := ⟨by kernel_rfl⟩
instance : HasF Try.prog 142 := ⟨by kernel_rfl⟩
instance : HasF Try.prog 143 := ⟨by kernel_rfl⟩
instance : HasF Try.prog 144 := ⟨by kernel_rfl⟩
instance : HasF Try.prog 145 := ⟨by kernel_rfl⟩
instance : HasF Try.prog 162 := ⟨by kernel_rfl⟩
instance : HasF Try.prog 163 := ⟨by kernel_rfl⟩
instance : HasF Try.prog 164 := ⟨by kernel_rfl⟩
instance : HasF Try.prog 165 := ⟨by kernel_rfl⟩
instance : HasF Try.prog 166 := ⟨by kernel_rfl⟩
structure S_api_Instr where
  f_Op : Int
  f_Arg : Int
  deriving DecidableEq
instance : Dfl S_api_Instr := ⟨⟨Dfl.d, Dfl.d⟩⟩
def e_api_Instr : Enc S_api_Instr := ⟨2, fun x => [.int .i64 x.f_Op, .int .i32 x.f_Arg], fun _ => rfl⟩
instance : EncS e_api_Instr 2 := ⟨rfl⟩
instance (x : S_api_Instr) : EncC e_api_Instr x [.int .i64 x.f_Op, .int .i32 x.f_Arg] := ⟨rfl⟩
instance (yf_Op : Int) (yf_Arg : Int) : EncI e_api_Instr (.agg #[.int .i64 yf_Op, .int .i32 yf_Arg]) ⟨yf_Op, yf_Arg⟩ := ⟨rfl⟩
instance : TyE Try.prog 53 e_api_Instr := ⟨(inferInstance : TySz Try.prog 53 2)⟩
instance (H : List HProp) (x : S_api_Instr) (a : Int) : EncU H e_api_Instr x 0 (.int .i64 a) { x with f_Op := a } := ⟨fun _ _ => ⟨_, rfl, rfl⟩⟩
instance (H : List HProp) (x : S_api_Instr) (a : Int) : EncU H e_api_Instr x 1 (.int .i32 a) { x with f_Arg := a } := ⟨fun _ _ => ⟨_, rfl, rfl⟩⟩
structure S_api_Tree where
  f_Kind : Int
  f_Value : Int
  f_Label : Int
  f_Kids : Value
instance : Dfl S_api_Tree := ⟨⟨Dfl.d, Dfl.d, Dfl.d, Dfl.d⟩⟩
def e_api_Tree : Enc S_api_Tree := ⟨4, fun x => [.int .i64 x.f_Kind, .int .i32 x.f_Value, .int .i64 x.f_Label, x.f_Kids], fun _ => rfl⟩
instance : EncS e_api_Tree 4 := ⟨rfl⟩
instance (x : S_api_Tree) : EncC e_api_Tree x [.int .i64 x.f_Kind, .int .i32 x.f_Value, .int .i64 x.f_Label, x.f_Kids] := ⟨rfl⟩
instance (yf_Kind : Int) (yf_Value : Int) (yf_Label : Int) (yf_Kids : Value) : EncI e_api_Tree (.agg #[.int .i64 yf_Kind, .int .i32 yf_Value, .int .i64 yf_Label, yf_Kids]) ⟨yf_Kind, yf_Value, yf_Label, yf_Kids⟩ := ⟨rfl⟩
instance : TyE Try.prog 56 e_api_Tree := ⟨(inferInstance : TySz Try.prog 56 4)⟩
instance (H : List HProp) (x : S_api_Tree) (a : Int) : EncU H e_api_Tree x 0 (.int .i64 a) { x with f_Kind := a } := ⟨fun _ _ => ⟨_, rfl, rfl⟩⟩
instance (H : List HProp) (x : S_api_Tree) (a : Int) : EncU H e_api_Tree x 1 (.int .i32 a) { x with f_Value := a } := ⟨fun _ _ => ⟨_, rfl, rfl⟩⟩
instance (H : List HProp) (x : S_api_Tree) (a : Int) : EncU H e_api_Tree x 2 (.int .i64 a) { x with f_Label := a } := ⟨fun _ _ => ⟨_, rfl, rfl⟩⟩
instance (priority := low) (H : List HProp) (x : S_api_Tree) (a : Value) [h : Fl1 H a] : EncU H e_api_Tree x 3 a { x with f_Kids := a } := ⟨fun w hw => ⟨[a], (h.f w hw).2, rfl⟩⟩
structure S_confidantref15_Queue where
  f_L : Value
instance : Dfl S_confidantref15_Queue := ⟨⟨Dfl.d⟩⟩
def e_confidantref15_Queue : Enc S_confidantref15_Queue := ⟨1, fun x => [x.f_L], fun _ => rfl⟩
instance : EncS e_confidantref15_Queue 1 := ⟨rfl⟩
instance (x : S_confidantref15_Queue) : EncC e_confidantref15_Queue x [x.f_L] := ⟨rfl⟩
instance (yf_L : Value) : EncI e_confidantref15_Queue (.agg #[yf_L]) ⟨yf_L⟩ := ⟨rfl⟩
instance : TyE Try.prog 70 e_confidantref15_Queue := ⟨(inferInstance : TySz Try.prog 70 1)⟩
instance (priority := low) (H : List HProp) (x : S_confidantref15_Queue) (a : Value) [h : Fl1 H a] : EncU H e_confidantref15_Queue x 0 a { x with f_L := a } := ⟨fun w hw => ⟨[a], (h.f w hw).2, rfl⟩⟩
structure S_confidantlaw19_Act where
  f_What : Int
  f_Round : Int
  f_Id : Int
  f_R : Int
  deriving DecidableEq
instance : Dfl S_confidantlaw19_Act := ⟨⟨Dfl.d, Dfl.d, Dfl.d, Dfl.d⟩⟩
def e_confidantlaw19_Act : Enc S_confidantlaw19_Act := ⟨4, fun x => [.int .u8 x.f_What, .int .u8 x.f_Round, .int .u8 x.f_Id, .int .i64 x.f_R], fun _ => rfl⟩
instance : EncS e_confidantlaw19_Act 4 := ⟨rfl⟩
instance (x : S_confidantlaw19_Act) : EncC e_confidantlaw19_Act x [.int .u8 x.f_What, .int .u8 x.f_Round, .int .u8 x.f_Id, .int .i64 x.f_R] := ⟨rfl⟩
instance (yf_What : Int) (yf_Round : Int) (yf_Id : Int) (yf_R : Int) : EncI e_confidantlaw19_Act (.agg #[.int .u8 yf_What, .int .u8 yf_Round, .int .u8 yf_Id, .int .i64 yf_R]) ⟨yf_What, yf_Round, yf_Id, yf_R⟩ := ⟨rfl⟩
instance : TyE Try.prog 72 e_confidantlaw19_Act := ⟨(inferInstance : TySz Try.prog 72 4)⟩
instance (H : List HProp) (x : S_confidantlaw19_Act) (a : Int) : EncU H e_confidantlaw19_Act x 0 (.int .u8 a) { x with f_What := a } := ⟨fun _ _ => ⟨_, rfl, rfl⟩⟩
instance (H : List HProp) (x : S_confidantlaw19_Act) (a : Int) : EncU H e_confidantlaw19_Act x 1 (.int .u8 a) { x with f_Round := a } := ⟨fun _ _ => ⟨_, rfl, rfl⟩⟩
instance (H : List HProp) (x : S_confidantlaw19_Act) (a : Int) : EncU H e_confidantlaw19_Act x 2 (.int .u8 a) { x with f_Id := a } := ⟨fun _ _ => ⟨_, rfl, rfl⟩⟩
instance (H : List HProp) (x : S_confidantlaw19_Act) (a : Int) : EncU H e_confidantlaw19_Act x 3 (.int .i64 a) { x with f_R := a } := ⟨fun _ _ => ⟨_, rfl, rfl⟩⟩
structure S_api_Task where
  f_Id : Int
  f_Func : Int
  f_Pc : Int
  f_Stack : Value
  f_Vars0 : Int
  f_Vars1 : Int
  f_Vars2 : Int
  f_Vars3 : Int
  f_Label : Int
  f_Clear : Int
  f_Privs : Int
  f_Worker : Int
instance : Dfl S_api_Task := ⟨⟨Dfl.d, Dfl.d, Dfl.d, Dfl.d, Dfl.d, Dfl.d, Dfl.d, Dfl.d, Dfl.d, Dfl.d, Dfl.d, Dfl.d⟩⟩
def e_api_Task : Enc S_api_Task := ⟨12, fun x => [.int .i32 x.f_Id, .int .i64 x.f_Func, .int .i64 x.f_Pc, x.f_Stack, .int .i32 x.f_Vars0, .int .i32 x.f_Vars1, .int .i32 x.f_Vars2, .int .i32 x.f_Vars3, .int .i64 x.f_Label, .int .i64 x.f_Clear, .int .u32 x.f_Privs, .int .i64 x.f_Worker], fun _ => rfl⟩
instance : EncS e_api_Task 12 := ⟨rfl⟩
instance (x : S_api_Task) : EncC e_api_Task x [.int .i32 x.f_Id, .int .i64 x.f_Func, .int .i64 x.f_Pc, x.f_Stack, .int .i32 x.f_Vars0, .int .i32 x.f_Vars1, .int .i32 x.f_Vars2, .int .i32 x.f_Vars3, .int .i64 x.f_Label, .int .i64 x.f_Clear, .int .u32 x.f_Privs, .int .i64 x.f_Worker] := ⟨rfl⟩
instance (yf_Id : Int) (yf_Func : Int) (yf_Pc : Int) (yf_Stack : Value) (yf_Vars0 : Int) (yf_Vars1 : Int) (yf_Vars2 : Int) (yf_Vars3 : Int) (yf_Label : Int) (yf_Clear : Int) (yf_Privs : Int) (yf_Worker : Int) : EncI e_api_Task (.agg #[.int .i32 yf_Id, .int .i64 yf_Func, .int .i64 yf_Pc, yf_Stack, .int .i32 yf_Vars0, .int .i32 yf_Vars1, .int .i32 yf_Vars2, .int .i32 yf_Vars3, .int .i64 yf_Label, .int .i64 yf_Clear, .int .u32 yf_Privs, .int .i64 yf_Worker]) ⟨yf_Id, yf_Func, yf_Pc, yf_Stack, yf_Vars0, yf_Vars1, yf_Vars2, yf_Vars3, yf_Label, yf_Clear, yf_Privs, yf_Worker⟩ := ⟨rfl⟩
instance : TyE Try.prog 76 e_api_Task := ⟨(inferInstance : TySz Try.prog 76 12)⟩
instance (H : List HProp) (x : S_api_Task) (a : Int) : EncU H e_api_Task x 0 (.int .i32 a) { x with f_Id := a } := ⟨fun _ _ => ⟨_, rfl, rfl⟩⟩
instance (H : List HProp) (x : S_api_Task) (a : Int) : EncU H e_api_Task x 1 (.int .i64 a) { x with f_Func := a } := ⟨fun _ _ => ⟨_, rfl, rfl⟩⟩
instance (H : List HProp) (x : S_api_Task) (a : Int) : EncU H e_api_Task x 2 (.int .i64 a) { x with f_Pc := a } := ⟨fun _ _ => ⟨_, rfl, rfl⟩⟩
instance (priority := low) (H : List HProp) (x : S_api_Task) (a : Value) [h : Fl1 H a] : EncU H e_api_Task x 3 a { x with f_Stack := a } := ⟨fun w hw => ⟨[a], (h.f w hw).2, rfl⟩⟩
instance (H : List HProp) (x : S_api_Task) (a : Int) : EncU H e_api_Task x 4 (.int .i32 a) { x with f_Vars0 := a } := ⟨fun _ _ => ⟨_, rfl, rfl⟩⟩
instance (H : List HProp) (x : S_api_Task) (a : Int) : EncU H e_api_Task x 5 (.int .i32 a) { x with f_Vars1 := a } := ⟨fun _ _ => ⟨_, rfl, rfl⟩⟩
instance (H : List HProp) (x : S_api_Task) (a : Int) : EncU H e_api_Task x 6 (.int .i32 a) { x with f_Vars2 := a } := ⟨fun _ _ => ⟨_, rfl, rfl⟩⟩
instance (H : List HProp) (x : S_api_Task) (a : Int) : EncU H e_api_Task x 7 (.int .i32 a) { x with f_Vars3 := a } := ⟨fun _ _ => ⟨_, rfl, rfl⟩⟩
instance (H : List HProp) (x : S_api_Task) (a : Int) : EncU H e_api_Task x 8 (.int .i64 a) { x with f_Label := a } := ⟨fun _ _ => ⟨_, rfl, rfl⟩⟩
instance (H : List HProp) (x : S_api_Task) (a : Int) : EncU H e_api_Task x 9 (.int .i64 a) { x with f_Clear := a } := ⟨fun _ _ => ⟨_, rfl, rfl⟩⟩
instance (H : List HProp) (x : S_api_Task) (a : Int) : EncU H e_api_Task x 10 (.int .u32 a) { x with f_Privs := a } := ⟨fun _ _ => ⟨_, rfl, rfl⟩⟩
instance (H : List HProp) (x : S_api_Task) (a : Int) : EncU H e_api_Task x 11 (.int .i64 a) { x with f_Worker := a } := ⟨fun _ _ => ⟨_, rfl, rfl⟩⟩
structure S_queue_Entry where
  f_Round : Int
  f_Task : S_api_Task
instance : Dfl S_queue_Entry := ⟨⟨Dfl.d, Dfl.d⟩⟩
def e_queue_Entry : Enc S_queue_Entry := ⟨13, fun x => [.int .i64 x.f_Round, .int .i32 x.f_Task.f_Id, .int .i64 x.f_Task.f_Func, .int .i64 x.f_Task.f_Pc, x.f_Task.f_Stack, .int .i32 x.f_Task.f_Vars0, .int .i32 x.f_Task.f_Vars1, .int .i32 x.f_Task.f_Vars2, .int .i32 x.f_Task.f_Vars3, .int .i64 x.f_Task.f_Label, .int .i64 x.f_Task.f_Clear, .int .u32 x.f_Task.f_Privs, .int .i64 x.f_Task.f_Worker], fun _ => rfl⟩
instance : EncS e_queue_Entry 13 := ⟨rfl⟩
instance (x : S_queue_Entry) : EncC e_queue_Entry x [.int .i64 x.f_Round, .int .i32 x.f_Task.f_Id, .int .i64 x.f_Task.f_Func, .int .i64 x.f_Task.f_Pc, x.f_Task.f_Stack, .int .i32 x.f_Task.f_Vars0, .int .i32 x.f_Task.f_Vars1, .int .i32 x.f_Task.f_Vars2, .int .i32 x.f_Task.f_Vars3, .int .i64 x.f_Task.f_Label, .int .i64 x.f_Task.f_Clear, .int .u32 x.f_Task.f_Privs, .int .i64 x.f_Task.f_Worker] := ⟨rfl⟩
instance (yf_Round : Int) (yf_Task_f_Id : Int) (yf_Task_f_Func : Int) (yf_Task_f_Pc : Int) (yf_Task_f_Stack : Value) (yf_Task_f_Vars0 : Int) (yf_Task_f_Vars1 : Int) (yf_Task_f_Vars2 : Int) (yf_Task_f_Vars3 : Int) (yf_Task_f_Label : Int) (yf_Task_f_Clear : Int) (yf_Task_f_Privs : Int) (yf_Task_f_Worker : Int) : EncI e_queue_Entry (.agg #[.int .i64 yf_Round, .int .i32 yf_Task_f_Id, .int .i64 yf_Task_f_Func, .int .i64 yf_Task_f_Pc, yf_Task_f_Stack, .int .i32 yf_Task_f_Vars0, .int .i32 yf_Task_f_Vars1, .int .i32 yf_Task_f_Vars2, .int .i32 yf_Task_f_Vars3, .int .i64 yf_Task_f_Label, .int .i64 yf_Task_f_Clear, .int .u32 yf_Task_f_Privs, .int .i64 yf_Task_f_Worker]) ⟨yf_Round, ⟨yf_Task_f_Id, yf_Task_f_Func, yf_Task_f_Pc, yf_Task_f_Stack, yf_Task_f_Vars0, yf_Task_f_Vars1, yf_Task_f_Vars2, yf_Task_f_Vars3, yf_Task_f_Label, yf_Task_f_Clear, yf_Task_f_Privs, yf_Task_f_Worker⟩⟩ := ⟨rfl⟩
instance : TyE Try.prog 79 e_queue_Entry := ⟨(inferInstance : TySz Try.prog 79 13)⟩
instance (H : List HProp) (x : S_queue_Entry) (a : Int) : EncU H e_queue_Entry x 0 (.int .i64 a) { x with f_Round := a } := ⟨fun _ _ => ⟨_, rfl, rfl⟩⟩
structure S_confidantref15_Entry where
  f_Round : Int
  f_Task : S_api_Task
instance : Dfl S_confidantref15_Entry := ⟨⟨Dfl.d, Dfl.d⟩⟩
def e_confidantref15_Entry : Enc S_confidantref15_Entry := ⟨13, fun x => [.int .i64 x.f_Round, .int .i32 x.f_Task.f_Id, .int .i64 x.f_Task.f_Func, .int .i64 x.f_Task.f_Pc, x.f_Task.f_Stack, .int .i32 x.f_Task.f_Vars0, .int .i32 x.f_Task.f_Vars1, .int .i32 x.f_Task.f_Vars2, .int .i32 x.f_Task.f_Vars3, .int .i64 x.f_Task.f_Label, .int .i64 x.f_Task.f_Clear, .int .u32 x.f_Task.f_Privs, .int .i64 x.f_Task.f_Worker], fun _ => rfl⟩
instance : EncS e_confidantref15_Entry 13 := ⟨rfl⟩
instance (x : S_confidantref15_Entry) : EncC e_confidantref15_Entry x [.int .i64 x.f_Round, .int .i32 x.f_Task.f_Id, .int .i64 x.f_Task.f_Func, .int .i64 x.f_Task.f_Pc, x.f_Task.f_Stack, .int .i32 x.f_Task.f_Vars0, .int .i32 x.f_Task.f_Vars1, .int .i32 x.f_Task.f_Vars2, .int .i32 x.f_Task.f_Vars3, .int .i64 x.f_Task.f_Label, .int .i64 x.f_Task.f_Clear, .int .u32 x.f_Task.f_Privs, .int .i64 x.f_Task.f_Worker] := ⟨rfl⟩
instance (yf_Round : Int) (yf_Task_f_Id : Int) (yf_Task_f_Func : Int) (yf_Task_f_Pc : Int) (yf_Task_f_Stack : Value) (yf_Task_f_Vars0 : Int) (yf_Task_f_Vars1 : Int) (yf_Task_f_Vars2 : Int) (yf_Task_f_Vars3 : Int) (yf_Task_f_Label : Int) (yf_Task_f_Clear : Int) (yf_Task_f_Privs : Int) (yf_Task_f_Worker : Int) : EncI e_confidantref15_Entry (.agg #[.int .i64 yf_Round, .int .i32 yf_Task_f_Id, .int .i64 yf_Task_f_Func, .int .i64 yf_Task_f_Pc, yf_Task_f_Stack, .int .i32 yf_Task_f_Vars0, .int .i32 yf_Task_f_Vars1, .int .i32 yf_Task_f_Vars2, .int .i32 yf_Task_f_Vars3, .int .i64 yf_Task_f_Label, .int .i64 yf_Task_f_Clear, .int .u32 yf_Task_f_Privs, .int .i64 yf_Task_f_Worker]) ⟨yf_Round, ⟨yf_Task_f_Id, yf_Task_f_Func, yf_Task_f_Pc, yf_Task_f_Stack, yf_Task_f_Vars0, yf_Task_f_Vars1, yf_Task_f_Vars2, yf_Task_f_Vars3, yf_Task_f_Label, yf_Task_f_Clear, yf_Task_f_Privs, yf_Task_f_Worker⟩⟩ := ⟨rfl⟩
instance : TyE Try.prog 82 e_confidantref15_Entry := ⟨(inferInstance : TySz Try.prog 82 13)⟩
instance (H : List HProp) (x : S_confidantref15_Entry) (a : Int) : EncU H e_confidantref15_Entry x 0 (.int .i64 a) { x with f_Round := a } := ⟨fun _ _ => ⟨_, rfl, rfl⟩⟩
structure S_lattice_Lattice where
  f_leq : Value
  f_join : Value
  f_meet : Value
  f_top : Int
  f_bottom : Int
instance : Dfl S_lattice_Lattice := ⟨⟨Dfl.d, Dfl.d, Dfl.d, Dfl.d, Dfl.d⟩⟩
def e_lattice_Lattice : Enc S_lattice_Lattice := ⟨5, fun x => [x.f_leq, x.f_join, x.f_meet, .int .i64 x.f_top, .int .i64 x.f_bottom], fun _ => rfl⟩
instance : EncS e_lattice_Lattice 5 := ⟨rfl⟩
instance (x : S_lattice_Lattice) : EncC e_lattice_Lattice x [x.f_leq, x.f_join, x.f_meet, .int .i64 x.f_top, .int .i64 x.f_bottom] := ⟨rfl⟩
instance (yf_leq : Value) (yf_join : Value) (yf_meet : Value) (yf_top : Int) (yf_bottom : Int) : EncI e_lattice_Lattice (.agg #[yf_leq, yf_join, yf_meet, .int .i64 yf_top, .int .i64 yf_bottom]) ⟨yf_leq, yf_join, yf_meet, yf_top, yf_bottom⟩ := ⟨rfl⟩
instance : TyE Try.prog 95 e_lattice_Lattice := ⟨(inferInstance : TySz Try.prog 95 5)⟩
instance (priority := low) (H : List HProp) (x : S_lattice_Lattice) (a : Value) [h : Fl1 H a] : EncU H e_lattice_Lattice x 0 a { x with f_leq := a } := ⟨fun w hw => ⟨[a], (h.f w hw).2, rfl⟩⟩
instance (priority := low) (H : List HProp) (x : S_lattice_Lattice) (a : Value) [h : Fl1 H a] : EncU H e_lattice_Lattice x 1 a { x with f_join := a } := ⟨fun w hw => ⟨[a], (h.f w hw).2, rfl⟩⟩
instance (priority := low) (H : List HProp) (x : S_lattice_Lattice) (a : Value) [h : Fl1 H a] : EncU H e_lattice_Lattice x 2 a { x with f_meet := a } := ⟨fun w hw => ⟨[a], (h.f w hw).2, rfl⟩⟩
instance (H : List HProp) (x : S_lattice_Lattice) (a : Int) : EncU H e_lattice_Lattice x 3 (.int .i64 a) { x with f_top := a } := ⟨fun _ _ => ⟨_, rfl, rfl⟩⟩
instance (H : List HProp) (x : S_lattice_Lattice) (a : Int) : EncU H e_lattice_Lattice x 4 (.int .i64 a) { x with f_bottom := a } := ⟨fun _ _ => ⟨_, rfl, rfl⟩⟩
structure S_queue_Queue where
  f_l : Value
  f_n : Int
instance : Dfl S_queue_Queue := ⟨⟨Dfl.d, Dfl.d⟩⟩
def e_queue_Queue : Enc S_queue_Queue := ⟨2, fun x => [x.f_l, .int .i64 x.f_n], fun _ => rfl⟩
instance : EncS e_queue_Queue 2 := ⟨rfl⟩
instance (x : S_queue_Queue) : EncC e_queue_Queue x [x.f_l, .int .i64 x.f_n] := ⟨rfl⟩
instance (yf_l : Value) (yf_n : Int) : EncI e_queue_Queue (.agg #[yf_l, .int .i64 yf_n]) ⟨yf_l, yf_n⟩ := ⟨rfl⟩
instance : TyE Try.prog 111 e_queue_Queue := ⟨(inferInstance : TySz Try.prog 111 2)⟩
instance (priority := low) (H : List HProp) (x : S_queue_Queue) (a : Value) [h : Fl1 H a] : EncU H e_queue_Queue x 0 a { x with f_l := a } := ⟨fun w hw => ⟨[a], (h.f w hw).2, rfl⟩⟩
instance (H : List HProp) (x : S_queue_Queue) (a : Int) : EncU H e_queue_Queue x 1 (.int .i64 a) { x with f_n := a } := ⟨fun _ _ => ⟨_, rfl, rfl⟩⟩
structure S_queue_item where
  f_Entry : S_queue_Entry
  f_seq : Int
instance : Dfl S_queue_item := ⟨⟨Dfl.d, Dfl.d⟩⟩
def e_queue_item : Enc S_queue_item := ⟨14, fun x => [.int .i64 x.f_Entry.f_Round, .int .i32 x.f_Entry.f_Task.f_Id, .int .i64 x.f_Entry.f_Task.f_Func, .int .i64 x.f_Entry.f_Task.f_Pc, x.f_Entry.f_Task.f_Stack, .int .i32 x.f_Entry.f_Task.f_Vars0, .int .i32 x.f_Entry.f_Task.f_Vars1, .int .i32 x.f_Entry.f_Task.f_Vars2, .int .i32 x.f_Entry.f_Task.f_Vars3, .int .i64 x.f_Entry.f_Task.f_Label, .int .i64 x.f_Entry.f_Task.f_Clear, .int .u32 x.f_Entry.f_Task.f_Privs, .int .i64 x.f_Entry.f_Task.f_Worker, .int .i64 x.f_seq], fun _ => rfl⟩
instance : EncS e_queue_item 14 := ⟨rfl⟩
instance (x : S_queue_item) : EncC e_queue_item x [.int .i64 x.f_Entry.f_Round, .int .i32 x.f_Entry.f_Task.f_Id, .int .i64 x.f_Entry.f_Task.f_Func, .int .i64 x.f_Entry.f_Task.f_Pc, x.f_Entry.f_Task.f_Stack, .int .i32 x.f_Entry.f_Task.f_Vars0, .int .i32 x.f_Entry.f_Task.f_Vars1, .int .i32 x.f_Entry.f_Task.f_Vars2, .int .i32 x.f_Entry.f_Task.f_Vars3, .int .i64 x.f_Entry.f_Task.f_Label, .int .i64 x.f_Entry.f_Task.f_Clear, .int .u32 x.f_Entry.f_Task.f_Privs, .int .i64 x.f_Entry.f_Task.f_Worker, .int .i64 x.f_seq] := ⟨rfl⟩
instance (yf_Entry_f_Round : Int) (yf_Entry_f_Task_f_Id : Int) (yf_Entry_f_Task_f_Func : Int) (yf_Entry_f_Task_f_Pc : Int) (yf_Entry_f_Task_f_Stack : Value) (yf_Entry_f_Task_f_Vars0 : Int) (yf_Entry_f_Task_f_Vars1 : Int) (yf_Entry_f_Task_f_Vars2 : Int) (yf_Entry_f_Task_f_Vars3 : Int) (yf_Entry_f_Task_f_Label : Int) (yf_Entry_f_Task_f_Clear : Int) (yf_Entry_f_Task_f_Privs : Int) (yf_Entry_f_Task_f_Worker : Int) (yf_seq : Int) : EncI e_queue_item (.agg #[.int .i64 yf_Entry_f_Round, .int .i32 yf_Entry_f_Task_f_Id, .int .i64 yf_Entry_f_Task_f_Func, .int .i64 yf_Entry_f_Task_f_Pc, yf_Entry_f_Task_f_Stack, .int .i32 yf_Entry_f_Task_f_Vars0, .int .i32 yf_Entry_f_Task_f_Vars1, .int .i32 yf_Entry_f_Task_f_Vars2, .int .i32 yf_Entry_f_Task_f_Vars3, .int .i64 yf_Entry_f_Task_f_Label, .int .i64 yf_Entry_f_Task_f_Clear, .int .u32 yf_Entry_f_Task_f_Privs, .int .i64 yf_Entry_f_Task_f_Worker, .int .i64 yf_seq]) ⟨⟨yf_Entry_f_Round, ⟨yf_Entry_f_Task_f_Id, yf_Entry_f_Task_f_Func, yf_Entry_f_Task_f_Pc, yf_Entry_f_Task_f_Stack, yf_Entry_f_Task_f_Vars0, yf_Entry_f_Task_f_Vars1, yf_Entry_f_Task_f_Vars2, yf_Entry_f_Task_f_Vars3, yf_Entry_f_Task_f_Label, yf_Entry_f_Task_f_Clear, yf_Entry_f_Task_f_Privs, yf_Entry_f_Task_f_Worker⟩⟩, yf_seq⟩ := ⟨rfl⟩
instance : TyE Try.prog 116 e_queue_item := ⟨(inferInstance : TySz Try.prog 116 14)⟩
instance (H : List HProp) (x : S_queue_item) (a : Int) : EncU H e_queue_item x 13 (.int .i64 a) { x with f_seq := a } := ⟨fun _ _ => ⟨_, rfl, rfl⟩⟩
instance : TyE Try.prog 1 eVal := ⟨(inferInstance : TySz Try.prog 1 1)⟩
instance : TyE Try.prog 2 (eInt .i64) := ⟨(inferInstance : TySz Try.prog 2 1)⟩
instance : TyE Try.prog 3 (eInt .i64) := ⟨(inferInstance : TySz Try.prog 3 1)⟩
instance : TyE Try.prog 4 eBool := ⟨(inferInstance : TySz Try.prog 4 1)⟩
instance : TyE Try.prog 5 (eInt .u8) := ⟨(inferInstance : TySz Try.prog 5 1)⟩
instance : TyE Try.prog 12 (eInt .u64) := ⟨(inferInstance : TySz Try.prog 12 1)⟩
instance : TyE Try.prog 21 (eInt .i32) := ⟨(inferInstance : TySz Try.prog 21 1)⟩
instance : TyE Try.prog 22 eVal := ⟨(inferInstance : TySz Try.prog 22 1)⟩
instance : TyE Try.prog 23 eVal := ⟨(inferInstance : TySz Try.prog 23 1)⟩
instance : TyE Try.prog 24 eVal := ⟨(inferInstance : TySz Try.prog 24 1)⟩
instance : TyE Try.prog 25 eVal := ⟨(inferInstance : TySz Try.prog 25 1)⟩
instance : TyE Try.prog 26 eVal := ⟨(inferInstance : TySz Try.prog 26 1)⟩
instance : TyE Try.prog 27 eVal := ⟨(inferInstance : TySz Try.prog 27 1)⟩
instance : TyE Try.prog 28 ePtr := ⟨(inferInstance : TySz Try.prog 28 1)⟩
instance : TyE Try.prog 29 (eInt .i64) := ⟨(inferInstance : TySz Try.prog 29 1)⟩
instance : TyE Try.prog 31 eVal := ⟨(inferInstance : TySz Try.prog 31 1)⟩
instance : TyE Try.prog 32 eVal := ⟨(inferInstance : TySz Try.prog 32 1)⟩
instance : TyE Try.prog 33 eVal := ⟨(inferInstance : TySz Try.prog 33 1)⟩
instance : TyE Try.prog 34 eVal := ⟨(inferInstance : TySz Try.prog 34 1)⟩
instance : TyE Try.prog 35 eVal := ⟨(inferInstance : TySz Try.prog 35 1)⟩
instance : TyE Try.prog 37 eVal := ⟨(inferInstance : TySz Try.prog 37 1)⟩
instance : TyE Try.prog 38 eVal := ⟨(inferInstance : TySz Try.prog 38 1)⟩
instance : TyE Try.prog 39 eVal := ⟨(inferInstance : TySz Try.prog 39 1)⟩
instance : TyE Try.prog 41 eVal := ⟨(inferInstance : TySz Try.prog 41 1)⟩
instance : TyE Try.prog 43 eVal := ⟨(inferInstance : TySz Try.prog 43 1)⟩
instance : TyE Try.prog 44 eVal := ⟨(inferInstance : TySz Try.prog 44 1)⟩
instance : TyE Try.prog 45 eVal := ⟨(inferInstance : TySz Try.prog 45 1)⟩
instance : TyE Try.prog 46 eVal := ⟨(inferInstance : TySz Try.prog 46 1)⟩
instance : TyE Try.prog 47 eVal := ⟨(inferInstance : TySz Try.prog 47 1)⟩
instance : TyE Try.prog 48 eVal := ⟨(inferInstance : TySz Try.prog 48 1)⟩
instance : TyE Try.prog 50 eVal := ⟨(inferInstance : TySz Try.prog 50 1)⟩
instance : TyE Try.prog 51 eVal := ⟨(inferInstance : TySz Try.prog 51 1)⟩
instance : TyE Try.prog 54 eVal := ⟨(inferInstance : TySz Try.prog 54 1)⟩
instance : TyE Try.prog 57 eVal := ⟨(inferInstance : TySz Try.prog 57 1)⟩
instance : TyE Try.prog 58 eVal := ⟨(inferInstance : TySz Try.prog 58 1)⟩
instance : TyE Try.prog 59 eVal := ⟨(inferInstance : TySz Try.prog 59 1)⟩
instance : TyE Try.prog 60 eVal := ⟨(inferInstance : TySz Try.prog 60 1)⟩
instance : TyE Try.prog 61 eVal := ⟨(inferInstance : TySz Try.prog 61 1)⟩
instance : TyE Try.prog 62 eVal := ⟨(inferInstance : TySz Try.prog 62 1)⟩
instance : TyE Try.prog 63 eVal := ⟨(inferInstance : TySz Try.prog 63 1)⟩
instance : TyE Try.prog 64 eVal := ⟨(inferInstance : TySz Try.prog 64 1)⟩
instance : TyE Try.prog 65 ePtr := ⟨(inferInstance : TySz Try.prog 65 1)⟩
instance : TyE Try.prog 66 eVal := ⟨(inferInstance : TySz Try.prog 66 1)⟩
instance : TyE Try.prog 67 ePtr := ⟨(inferInstance : TySz Try.prog 67 1)⟩
instance : TyE Try.prog 68 eVal := ⟨(inferInstance : TySz Try.prog 68 1)⟩
instance : TyE Try.prog 74 (eInt .u32) := ⟨(inferInstance : TySz Try.prog 74 1)⟩
instance : TyE Try.prog 77 eVal := ⟨(inferInstance : TySz Try.prog 77 1)⟩
instance : TyE Try.prog 81 eVal := ⟨(inferInstance : TySz Try.prog 81 1)⟩
instance : TyE Try.prog 84 eVal := ⟨(inferInstance : TySz Try.prog 84 1)⟩
instance : TyE Try.prog 85 eVal := ⟨(inferInstance : TySz Try.prog 85 1)⟩
instance : TyE Try.prog 86 eVal := ⟨(inferInstance : TySz Try.prog 86 1)⟩
instance : TyE Try.prog 87 eVal := ⟨(inferInstance : TySz Try.prog 87 1)⟩
instance : TyE Try.prog 88 eVal := ⟨(inferInstance : TySz Try.prog 88 1)⟩
instance : TyE Try.prog 89 eVal := ⟨(inferInstance : TySz Try.prog 89 1)⟩
instance : TyE Try.prog 90 eVal := ⟨(inferInstance : TySz Try.prog 90 1)⟩
instance : TyE Try.prog 91 eVal := ⟨(inferInstance : TySz Try.prog 91 1)⟩
instance : TyE Try.prog 92 eVal := ⟨(inferInstance : TySz Try.prog 92 1)⟩
instance : TyE Try.prog 93 eVal := ⟨(inferInstance : TySz Try.prog 93 1)⟩
instance : TyE Try.prog 96 eVal := ⟨(inferInstance : TySz Try.prog 96 1)⟩
instance : TyE Try.prog 97 eVal := ⟨(inferInstance : TySz Try.prog 97 1)⟩
instance : TyE Try.prog 98 eVal := ⟨(inferInstance : TySz Try.prog 98 1)⟩
instance : TyE Try.prog 99 eVal := ⟨(inferInstance : TySz Try.prog 99 1)⟩
instance : TyE Try.prog 100 eVal := ⟨(inferInstance : TySz Try.prog 100 1)⟩
instance : TyE Try.prog 101 eVal := ⟨(inferInstance : TySz Try.prog 101 1)⟩
instance : TyE Try.prog 102 eVal := ⟨(inferInstance : TySz Try.prog 102 1)⟩
instance : TyE Try.prog 103 eVal := ⟨(inferInstance : TySz Try.prog 103 1)⟩
instance : TyE Try.prog 104 eVal := ⟨(inferInstance : TySz Try.prog 104 1)⟩
instance : TyE Try.prog 105 eVal := ⟨(inferInstance : TySz Try.prog 105 1)⟩
instance : TyE Try.prog 107 eVal := ⟨(inferInstance : TySz Try.prog 107 1)⟩
instance : TyE Try.prog 108 eVal := ⟨(inferInstance : TySz Try.prog 108 1)⟩
instance : TyE Try.prog 109 eVal := ⟨(inferInstance : TySz Try.prog 109 1)⟩
instance : TyE Try.prog 112 eVal := ⟨(inferInstance : TySz Try.prog 112 1)⟩
instance : TyE Try.prog 113 ePtr := ⟨(inferInstance : TySz Try.prog 113 1)⟩
instance : TyE Try.prog 114 eVal := ⟨(inferInstance : TySz Try.prog 114 1)⟩
instance : TyE Try.prog 117 eVal := ⟨(inferInstance : TySz Try.prog 117 1)⟩
instance : TyE Try.prog 118 eVal := ⟨(inferInstance : TySz Try.prog 118 1)⟩
instance : TyE Try.prog 119 eVal := ⟨(inferInstance : TySz Try.prog 119 1)⟩
instance : TyE Try.prog 120 eVal := ⟨(inferInstance : TySz Try.prog 120 1)⟩
instance : TyE Try.prog 121 eVal := ⟨(inferInstance : TySz Try.prog 121 1)⟩
instance : TyE Try.prog 122 eVal := ⟨(inferInstance : TySz Try.prog 122 1)⟩
instance : TyE Try.prog 123 eVal := ⟨(inferInstance : TySz Try.prog 123 1)⟩
instance : TyE Try.prog 124 eVal := ⟨(inferInstance : TySz Try.prog 124 1)⟩
instance : TyE Try.prog 125 eVal := ⟨(inferInstance : TySz Try.prog 125 1)⟩
instance : TyE Try.prog 126 eVal := ⟨(inferInstance : TySz Try.prog 126 1)⟩
instance : TyE Try.prog 127 eVal := ⟨(inferInstance : TySz Try.prog 127 1)⟩
instance : TyE Try.prog 128 eVal := ⟨(inferInstance : TySz Try.prog 128 1)⟩
instance : TyE Try.prog 129 eVal := ⟨(inferInstance : TySz Try.prog 129 1)⟩
instance : TyE Try.prog 130 eVal := ⟨(inferInstance : TySz Try.prog 130 1)⟩
instance : TyE Try.prog 131 eVal := ⟨(inferInstance : TySz Try.prog 131 1)⟩
instance : TyE Try.prog 132 eVal := ⟨(inferInstance : TySz Try.prog 132 1)⟩
instance : TyE Try.prog 133 eVal := ⟨(inferInstance : TySz Try.prog 133 1)⟩
instance : TyE Try.prog 134 eVal := ⟨(inferInstance : TySz Try.prog 134 1)⟩
instance : TyE Try.prog 135 eVal := ⟨(inferInstance : TySz Try.prog 135 1)⟩
instance : TyE Try.prog 136 eVal := ⟨(inferInstance : TySz Try.prog 136 1)⟩
instance : TyE Try.prog 137 eVal := ⟨(inferInstance : TySz Try.prog 137 1)⟩
instance : TyE Try.prog 138 eVal := ⟨(inferInstance : TySz Try.prog 138 1)⟩
instance : TyE Try.prog 139 eVal := ⟨(inferInstance : TySz Try.prog 139 1)⟩
instance : TyE Try.prog 140 eVal := ⟨(inferInstance : TySz Try.prog 140 1)⟩
instance : TyE Try.prog 142 eVal := ⟨(inferInstance : TySz Try.prog 142 1)⟩
instance : TyE Try.prog 145 eVal := ⟨(inferInstance : TySz Try.prog 145 1)⟩
instance : TyE Try.prog 146 eVal := ⟨(inferInstance : TySz Try.prog 146 1)⟩
instance : TyE Try.prog 147 eVal := ⟨(inferInstance : TySz Try.prog 147 1)⟩
instance : TyE Try.prog 148 eVal := ⟨(inferInstance : TySz Try.prog 148 1)⟩
instance : TyE Try.prog 149 eVal := ⟨(inferInstance : TySz Try.prog 149 1)⟩
instance : TyE Try.prog 150 eVal := ⟨(inferInstance : TySz Try.prog 150 1)⟩
instance : TyE Try.prog 151 eVal := ⟨(inferInstance : TySz Try.prog 151 1)⟩
instance : TyE Try.prog 152 eVal := ⟨(inferInstance : TySz Try.prog 152 1)⟩
instance : TyE Try.prog 153 (eInt .u64) := ⟨(inferInstance : TySz Try.prog 153 1)⟩
instance : TyE Try.prog 154 eVal := ⟨(inferInstance : TySz Try.prog 154 1)⟩
instance : TyE Try.prog 155 eVal := ⟨(inferInstance : TySz Try.prog 155 1)⟩
instance : TyE Try.prog 156 eVal := ⟨(inferInstance : TySz Try.prog 156 1)⟩
instance : TyE Try.prog 157 eVal := ⟨(inferInstance : TySz Try.prog 157 1)⟩
instance : TyE Try.prog 158 eVal := ⟨(inferInstance : TySz Try.prog 158 1)⟩
instance : TyE Try.prog 159 eVal := ⟨(inferInstance : TySz Try.prog 159 1)⟩
instance : TyE Try.prog 160 eVal := ⟨(inferInstance : TySz Try.prog 160 1)⟩
instance : TyE Try.prog 161 (eInt .i32) := ⟨(inferInstance : TySz Try.prog 161 1)⟩
instance : TyE Try.prog 162 eVal := ⟨(inferInstance : TySz Try.prog 162 1)⟩
instance : TyE Try.prog 163 eVal := ⟨(inferInstance : TySz Try.prog 163 1)⟩
instance : TyE Try.prog 164 eVal := ⟨(inferInstance : TySz Try.prog 164 1)⟩
instance : TyE Try.prog 165 eVal := ⟨(inferInstance : TySz Try.prog 165 1)⟩
instance : TyE Try.prog 166 (eInt .i64) := ⟨(inferInstance : TySz Try.prog 166 1)⟩
instance : TyE Try.prog 168 eVal := ⟨(inferInstance : TySz Try.prog 168 1)⟩
instance : TyE Try.prog 169 eVal := ⟨(inferInstance : TySz Try.prog 169 1)⟩
instance : TyE Try.prog 170 eVal := ⟨(inferInstance : TySz Try.prog 170 1)⟩
instance : TyE Try.prog 171 eVal := ⟨(inferInstance : TySz Try.prog 171 1)⟩
instance : TyE Try.prog 172 eVal := ⟨(inferInstance : TySz Try.prog 172 1)⟩
instance : TyE Try.prog 173 eVal := ⟨(inferInstance : TySz Try.prog 173 1)⟩
instance : TyE Try.prog 174 (eInt .u64) := ⟨(inferInstance : TySz Try.prog 174 1)⟩
instance : TyE Try.prog 175 eVal := ⟨(inferInstance : TySz Try.prog 175 1)⟩
instance : TyE Try.prog 176 (eInt .u64) := ⟨(inferInstance : TySz Try.prog 176 1)⟩
instance : TyE Try.prog 177 eVal := ⟨(inferInstance : TySz Try.prog 177 1)⟩
instance : TyE Try.prog 178 eVal := ⟨(inferInstance : TySz Try.prog 178 1)⟩
instance : TyE Try.prog 179 eVal := ⟨(inferInstance : TySz Try.prog 179 1)⟩
instance : TyE Try.prog 180 ePtr := ⟨(inferInstance : TySz Try.prog 180 1)⟩
instance : TyE Try.prog 181 eVal := ⟨(inferInstance : TySz Try.prog 181 1)⟩
instance : TyE Try.prog 182 ePtr := ⟨(inferInstance : TySz Try.prog 182 1)⟩
instance : TyE Try.prog 183 eVal := ⟨(inferInstance : TySz Try.prog 183 1)⟩
instance : TyE Try.prog 184 eVal := ⟨(inferInstance : TySz Try.prog 184 1)⟩
instance : TyE Try.prog 193 ePtr := ⟨(inferInstance : TySz Try.prog 193 1)⟩
structure S_A4_int32 where
  e0 : Int
  e1 : Int
  e2 : Int
  e3 : Int
  deriving DecidableEq
instance : Dfl S_A4_int32 := ⟨⟨Dfl.d, Dfl.d, Dfl.d, Dfl.d⟩⟩
def e_A4_int32 : Enc S_A4_int32 := ⟨4, fun x => [.int .i32 x.e0, .int .i32 x.e1, .int .i32 x.e2, .int .i32 x.e3], fun _ => rfl⟩
instance : EncS e_A4_int32 4 := ⟨rfl⟩
instance (x : S_A4_int32) : EncC e_A4_int32 x [.int .i32 x.e0, .int .i32 x.e1, .int .i32 x.e2, .int .i32 x.e3] := ⟨rfl⟩
instance (y0 : Int) (y1 : Int) (y2 : Int) (y3 : Int) : EncI e_A4_int32 (.agg #[.int .i32 y0, .int .i32 y1, .int .i32 y2, .int .i32 y3]) ⟨y0, y1, y2, y3⟩ := ⟨rfl⟩
instance : TyE Try.prog 73 e_A4_int32 := ⟨(inferInstance : TySz Try.prog 73 4)⟩
instance : EqG Try.prog 73 := ⟨by kernel_rfl, by kernel_rfl⟩
instance : EqT Try.prog 73 (kS e_A4_int32) 2 := ⟨fun d hd x y w => by
  obtain ⟨d, rfl⟩ : ∃ e, d = e + 1 := ⟨d - 1, by omega⟩
  refine (eqArray Try.underlying73 inferInstance (bs := [decide (x.e0 = y.e0), decide (x.e1 = y.e1), decide (x.e2 = y.e2), decide (x.e3 = y.e3)]) ?_).trans ?_
  · exact (EqAs.cons (t := 21) (V := (kI .i32)) (a := x.e0) (b := y.e0) (by omega) ((inferInstance : LiesL Try.prog 21 [.int .i32 x.e0, .int .i32 x.e1, .int .i32 x.e2, .int .i32 x.e3] 0 (.int .i32 x.e0)).lies) ((inferInstance : LiesL Try.prog 21 [.int .i32 y.e0, .int .i32 y.e1, .int .i32 y.e2, .int .i32 y.e3] 0 (.int .i32 y.e0)).lies) (EqAs.cons (t := 21) (V := (kI .i32)) (a := x.e1) (b := y.e1) (by omega) ((inferInstance : LiesL Try.prog 21 [.int .i32 x.e0, .int .i32 x.e1, .int .i32 x.e2, .int .i32 x.e3] 1 (.int .i32 x.e1)).lies) ((inferInstance : LiesL Try.prog 21 [.int .i32 y.e0, .int .i32 y.e1, .int .i32 y.e2, .int .i32 y.e3] 1 (.int .i32 y.e1)).lies) (EqAs.cons (t := 21) (V := (kI .i32)) (a := x.e2) (b := y.e2) (by omega) ((inferInstance : LiesL Try.prog 21 [.int .i32 x.e0, .int .i32 x.e1, .int .i32 x.e2, .int .i32 x.e3] 2 (.int .i32 x.e2)).lies) ((inferInstance : LiesL Try.prog 21 [.int .i32 y.e0, .int .i32 y.e1, .int .i32 y.e2, .int .i32 y.e3] 2 (.int .i32 y.e2)).lies) (EqAs.cons (t := 21) (V := (kI .i32)) (a := x.e3) (b := y.e3) (by omega) ((inferInstance : LiesL Try.prog 21 [.int .i32 x.e0, .int .i32 x.e1, .int .i32 x.e2, .int .i32 x.e3] 3 (.int .i32 x.e3)).lies) ((inferInstance : LiesL Try.prog 21 [.int .i32 y.e0, .int .i32 y.e1, .int .i32 y.e2, .int .i32 y.e3] 3 (.int .i32 y.e3)).lies) trivial))))
  · cases x; cases y; simp only [Result.ok.injEq, and_true]; rw [Bool.eq_iff_iff]; simp⟩
def ok_A4_int32 : World → S_A4_int32 → Prop := fun w x => okI .i32 w x.e0 ∧ okI .i32 w x.e1 ∧ okI .i32 w x.e2 ∧ okI .i32 w x.e3
instance : Rd Try.prog 73 e_A4_int32 ok_A4_int32 := ⟨fun {H enc w fuel cs x} h => by
  obtain ⟨xs, m, _, _, hl, hlen, hf⟩ := DataW.trod_array Try.underlying73 h
  rw [cellsOf_of (n := 4)] at hl
  match cs, hl with
  | [c0, c1, c2, c3], _ =>
    obtain ⟨y0, e0, k0, l0⟩ := Rd.elt (P := Try.prog) (t' := 21) hf hlen 0 (by omega) 0 rfl
    replace e0 : [c0] = [.int .i32 y0] := e0
    replace l0 : ∀ c, c ∈ [c0] → fl c = true := l0
    obtain ⟨y1, e1, k1, l1⟩ := Rd.elt (P := Try.prog) (t' := 21) hf hlen 1 (by omega) 1 rfl
    replace e1 : [c1] = [.int .i32 y1] := e1
    replace l1 : ∀ c, c ∈ [c1] → fl c = true := l1
    obtain ⟨y2, e2, k2, l2⟩ := Rd.elt (P := Try.prog) (t' := 21) hf hlen 2 (by omega) 2 rfl
    replace e2 : [c2] = [.int .i32 y2] := e2
    replace l2 : ∀ c, c ∈ [c2] → fl c = true := l2
    obtain ⟨y3, e3, k3, l3⟩ := Rd.elt (P := Try.prog) (t' := 21) hf hlen 3 (by omega) 3 rfl
    replace e3 : [c3] = [.int .i32 y3] := e3
    replace l3 : ∀ c, c ∈ [c3] → fl c = true := l3
    have q0 := (List.cons.inj e0).1.symm; subst q0
    have q1 := (List.cons.inj e1).1.symm; subst q1
    have q2 := (List.cons.inj e2).1.symm; subst q2
    have q3 := (List.cons.inj e3).1.symm; subst q3
    refine ⟨⟨y0, y1, y2, y3⟩, rfl, ⟨k0, k1, k2, k3⟩, fun c hc => ?_⟩
    simp only [List.mem_cons, List.not_mem_nil, or_false] at hc
    rcases hc with rfl | rfl | rfl | rfl
    · exact l0 _ (by simp)
    · exact l1 _ (by simp)
    · exact l2 _ (by simp)
    · exact l3 _ (by simp)⟩
def ok_api_Instr : World → S_api_Instr → Prop := fun w x => okI .i64 w x.f_Op ∧ okI .i32 w x.f_Arg
instance : Rd Try.prog 53 e_api_Instr ok_api_Instr := ⟨fun {H enc w fuel cs x} h => by
  obtain ⟨xs, m, _, _, hl, hlen, hf⟩ := DataW.trod_struct Try.underlying53 h
  rw [cellsOf_of (n := 2)] at hl
  match cs, hl with
  | [c0, c1], _ =>
    obtain ⟨y0, e0, k0, l0⟩ := Rd.fld (P := Try.prog) (t' := 3) hf hlen 0 _ rfl rfl 0 rfl
    replace e0 : [c0] = [.int .i64 y0] := e0
    replace l0 : ∀ c, c ∈ [c0] → fl c = true := l0
    obtain ⟨y1, e1, k1, l1⟩ := Rd.fld (P := Try.prog) (t' := 21) hf hlen 1 _ rfl rfl 1 rfl
    replace e1 : [c1] = [.int .i32 y1] := e1
    replace l1 : ∀ c, c ∈ [c1] → fl c = true := l1
    have q0 := (List.cons.inj e0).1.symm; subst q0
    have q1 := (List.cons.inj e1).1.symm; subst q1
    refine ⟨⟨y0, y1⟩, rfl, ⟨k0, k1⟩, fun c hc => ?_⟩
    simp only [List.mem_cons, List.not_mem_nil, or_false] at hc
    rcases hc with rfl | rfl
    · exact l0 _ (by simp)
    · exact l1 _ (by simp)⟩
def ok_api_Tree : World → S_api_Tree → Prop := fun w x => okI .i64 w x.f_Kind ∧ okI .i32 w x.f_Value ∧ okI .i64 w x.f_Label ∧ (okS (eInt .i64) (okI .i64)) w x.f_Kids
instance : Rd Try.prog 56 e_api_Tree ok_api_Tree := ⟨fun {H enc w fuel cs x} h => by
  obtain ⟨xs, m, _, _, hl, hlen, hf⟩ := DataW.trod_struct Try.underlying56 h
  rw [cellsOf_of (n := 4)] at hl
  match cs, hl with
  | [c0, c1, c2, c3], _ =>
    obtain ⟨y0, e0, k0, l0⟩ := Rd.fld (P := Try.prog) (t' := 3) hf hlen 0 _ rfl rfl 0 rfl
    replace e0 : [c0] = [.int .i64 y0] := e0
    replace l0 : ∀ c, c ∈ [c0] → fl c = true := l0
    obtain ⟨y1, e1, k1, l1⟩ := Rd.fld (P := Try.prog) (t' := 21) hf hlen 1 _ rfl rfl 1 rfl
    replace e1 : [c1] = [.int .i32 y1] := e1
    replace l1 : ∀ c, c ∈ [c1] → fl c = true := l1
    obtain ⟨y2, e2, k2, l2⟩ := Rd.fld (P := Try.prog) (t' := 3) hf hlen 2 _ rfl rfl 2 rfl
    replace e2 : [c2] = [.int .i64 y2] := e2
    replace l2 : ∀ c, c ∈ [c2] → fl c = true := l2
    obtain ⟨y3, e3, k3, l3⟩ := Rd.fld (P := Try.prog) (t' := 54) hf hlen 3 _ rfl rfl 3 rfl
    replace e3 : [c3] = [y3] := e3
    replace l3 : ∀ c, c ∈ [c3] → fl c = true := l3
    have q0 := (List.cons.inj e0).1.symm; subst q0
    have q1 := (List.cons.inj e1).1.symm; subst q1
    have q2 := (List.cons.inj e2).1.symm; subst q2
    have q3 := (List.cons.inj e3).1.symm; subst q3
    refine ⟨⟨y0, y1, y2, y3⟩, rfl, ⟨k0, k1, k2, k3⟩, fun c hc => ?_⟩
    simp only [List.mem_cons, List.not_mem_nil, or_false] at hc
    rcases hc with rfl | rfl | rfl | rfl
    · exact l0 _ (by simp)
    · exact l1 _ (by simp)
    · exact l2 _ (by simp)
    · exact l3 _ (by simp)⟩
def ok_confidantlaw19_Act : World → S_confidantlaw19_Act → Prop := fun w x => okI .u8 w x.f_What ∧ okI .u8 w x.f_Round ∧ okI .u8 w x.f_Id ∧ okI .i64 w x.f_R
instance : Rd Try.prog 72 e_confidantlaw19_Act ok_confidantlaw19_Act := ⟨fun {H enc w fuel cs x} h => by
  obtain ⟨xs, m, _, _, hl, hlen, hf⟩ := DataW.trod_struct Try.underlying72 h
  rw [cellsOf_of (n := 4)] at hl
  match cs, hl with
  | [c0, c1, c2, c3], _ =>
    obtain ⟨y0, e0, k0, l0⟩ := Rd.fld (P := Try.prog) (t' := 5) hf hlen 0 _ rfl rfl 0 rfl
    replace e0 : [c0] = [.int .u8 y0] := e0
    replace l0 : ∀ c, c ∈ [c0] → fl c = true := l0
    obtain ⟨y1, e1, k1, l1⟩ := Rd.fld (P := Try.prog) (t' := 5) hf hlen 1 _ rfl rfl 1 rfl
    replace e1 : [c1] = [.int .u8 y1] := e1
    replace l1 : ∀ c, c ∈ [c1] → fl c = true := l1
    obtain ⟨y2, e2, k2, l2⟩ := Rd.fld (P := Try.prog) (t' := 5) hf hlen 2 _ rfl rfl 2 rfl
    replace e2 : [c2] = [.int .u8 y2] := e2
    replace l2 : ∀ c, c ∈ [c2] → fl c = true := l2
    obtain ⟨y3, e3, k3, l3⟩ := Rd.fld (P := Try.prog) (t' := 3) hf hlen 3 _ rfl rfl 3 rfl
    replace e3 : [c3] = [.int .i64 y3] := e3
    replace l3 : ∀ c, c ∈ [c3] → fl c = true := l3
    have q0 := (List.cons.inj e0).1.symm; subst q0
    have q1 := (List.cons.inj e1).1.symm; subst q1
    have q2 := (List.cons.inj e2).1.symm; subst q2
    have q3 := (List.cons.inj e3).1.symm; subst q3
    refine ⟨⟨y0, y1, y2, y3⟩, rfl, ⟨k0, k1, k2, k3⟩, fun c hc => ?_⟩
    simp only [List.mem_cons, List.not_mem_nil, or_false] at hc
    rcases hc with rfl | rfl | rfl | rfl
    · exact l0 _ (by simp)
    · exact l1 _ (by simp)
    · exact l2 _ (by simp)
    · exact l3 _ (by simp)⟩
def ok_lattice_Lattice : World → S_lattice_Lattice → Prop := fun w x => (okS eVal ((okS (eInt .i64) (okI .i64)))) w x.f_leq ∧ (okS eVal ((okS (eInt .i64) (okI .i64)))) w x.f_join ∧ (okS eVal ((okS (eInt .i64) (okI .i64)))) w x.f_meet ∧ okI .i64 w x.f_top ∧ okI .i64 w x.f_bottom
instance : Rd Try.prog 95 e_lattice_Lattice ok_lattice_Lattice := ⟨fun {H enc w fuel cs x} h => by
  obtain ⟨xs, m, _, _, hl, hlen, hf⟩ := DataW.trod_struct Try.underlying95 h
  rw [cellsOf_of (n := 5)] at hl
  match cs, hl with
  | [c0, c1, c2, c3, c4], _ =>
    obtain ⟨y0, e0, k0, l0⟩ := Rd.fld (P := Try.prog) (t' := 93) hf hlen 0 _ rfl rfl 0 rfl
    replace e0 : [c0] = [y0] := e0
    replace l0 : ∀ c, c ∈ [c0] → fl c = true := l0
    obtain ⟨y1, e1, k1, l1⟩ := Rd.fld (P := Try.prog) (t' := 93) hf hlen 1 _ rfl rfl 1 rfl
    replace e1 : [c1] = [y1] := e1
    replace l1 : ∀ c, c ∈ [c1] → fl c = true := l1
    obtain ⟨y2, e2, k2, l2⟩ := Rd.fld (P := Try.prog) (t' := 93) hf hlen 2 _ rfl rfl 2 rfl
    replace e2 : [c2] = [y2] := e2
    replace l2 : ∀ c, c ∈ [c2] → fl c = true := l2
    obtain ⟨y3, e3, k3, l3⟩ := Rd.fld (P := Try.prog) (t' := 3) hf hlen 3 _ rfl rfl 3 rfl
    replace e3 : [c3] = [.int .i64 y3] := e3
    replace l3 : ∀ c, c ∈ [c3] → fl c = true := l3
    obtain ⟨y4, e4, k4, l4⟩ := Rd.fld (P := Try.prog) (t' := 3) hf hlen 4 _ rfl rfl 4 rfl
    replace e4 : [c4] = [.int .i64 y4] := e4
    replace l4 : ∀ c, c ∈ [c4] → fl c = true := l4
    have q0 := (List.cons.inj e0).1.symm; subst q0
    have q1 := (List.cons.inj e1).1.symm; subst q1
    have q2 := (List.cons.inj e2).1.symm; subst q2
    have q3 := (List.cons.inj e3).1.symm; subst q3
    have q4 := (List.cons.inj e4).1.symm; subst q4
    refine ⟨⟨y0, y1, y2, y3, y4⟩, rfl, ⟨k0, k1, k2, k3, k4⟩, fun c hc => ?_⟩
    simp only [List.mem_cons, List.not_mem_nil, or_false] at hc
    rcases hc with rfl | rfl | rfl | rfl | rfl
    · exact l0 _ (by simp)
    · exact l1 _ (by simp)
    · exact l2 _ (by simp)
    · exact l3 _ (by simp)
    · exact l4 _ (by simp)⟩
instance : EqG Try.prog 53 := ⟨by kernel_rfl, by kernel_rfl⟩
instance : EqT Try.prog 53 (kS e_api_Instr) 2 := ⟨fun d hd x y w => by
  obtain ⟨d, rfl⟩ : ∃ e, d = e + 1 := ⟨d - 1, by omega⟩
  refine (eqStruct Try.underlying53 (by kernel_rfl) (bs := [decide (x.f_Op = y.f_Op), decide (x.f_Arg = y.f_Arg)]) ?_).trans ?_
  · exact (EqFs.cons (t := 3) (V := (kI .i64)) (a := x.f_Op) (b := y.f_Op) rfl (by decide) (by omega) ((inferInstance : LiesL Try.prog 3 [.int .i64 x.f_Op, .int .i32 x.f_Arg] 0 (.int .i64 x.f_Op)).lies) ((inferInstance : LiesL Try.prog 3 [.int .i64 y.f_Op, .int .i32 y.f_Arg] 0 (.int .i64 y.f_Op)).lies) (EqFs.cons (t := 21) (V := (kI .i32)) (a := x.f_Arg) (b := y.f_Arg) rfl (by decide) (by omega) ((inferInstance : LiesL Try.prog 21 [.int .i64 x.f_Op, .int .i32 x.f_Arg] 1 (.int .i32 x.f_Arg)).lies) ((inferInstance : LiesL Try.prog 21 [.int .i64 y.f_Op, .int .i32 y.f_Arg] 1 (.int .i32 y.f_Arg)).lies) trivial))
  · cases x; cases y; simp only [Result.ok.injEq, and_true]; rw [Bool.eq_iff_iff]; simp⟩
instance : EqG Try.prog 72 := ⟨by kernel_rfl, by kernel_rfl⟩
instance : EqT Try.prog 72 (kS e_confidantlaw19_Act) 2 := ⟨fun d hd x y w => by
  obtain ⟨d, rfl⟩ : ∃ e, d = e + 1 := ⟨d - 1, by omega⟩
  refine (eqStruct Try.underlying72 (by kernel_rfl) (bs := [decide (x.f_What = y.f_What), decide (x.f_Round = y.f_Round), decide (x.f_Id = y.f_Id), decide (x.f_R = y.f_R)]) ?_).trans ?_
  · exact (EqFs.cons (t := 5) (V := (kI .u8)) (a := x.f_What) (b := y.f_What) rfl (by decide) (by omega) ((inferInstance : LiesL Try.prog 5 [.int .u8 x.f_What, .int .u8 x.f_Round, .int .u8 x.f_Id, .int .i64 x.f_R] 0 (.int .u8 x.f_What)).lies) ((inferInstance : LiesL Try.prog 5 [.int .u8 y.f_What, .int .u8 y.f_Round, .int .u8 y.f_Id, .int .i64 y.f_R] 0 (.int .u8 y.f_What)).lies) (EqFs.cons (t := 5) (V := (kI .u8)) (a := x.f_Round) (b := y.f_Round) rfl (by decide) (by omega) ((inferInstance : LiesL Try.prog 5 [.int .u8 x.f_What, .int .u8 x.f_Round, .int .u8 x.f_Id, .int .i64 x.f_R] 1 (.int .u8 x.f_Round)).lies) ((inferInstance : LiesL Try.prog 5 [.int .u8 y.f_What, .int .u8 y.f_Round, .int .u8 y.f_Id, .int .i64 y.f_R] 1 (.int .u8 y.f_Round)).lies) (EqFs.cons (t := 5) (V := (kI .u8)) (a := x.f_Id) (b := y.f_Id) rfl (by decide) (by omega) ((inferInstance : LiesL Try.prog 5 [.int .u8 x.f_What, .int .u8 x.f_Round, .int .u8 x.f_Id, .int .i64 x.f_R] 2 (.int .u8 x.f_Id)).lies) ((inferInstance : LiesL Try.prog 5 [.int .u8 y.f_What, .int .u8 y.f_Round, .int .u8 y.f_Id, .int .i64 y.f_R] 2 (.int .u8 y.f_Id)).lies) (EqFs.cons (t := 3) (V := (kI .i64)) (a := x.f_R) (b := y.f_R) rfl (by decide) (by omega) ((inferInstance : LiesL Try.prog 3 [.int .u8 x.f_What, .int .u8 x.f_Round, .int .u8 x.f_Id, .int .i64 x.f_R] 3 (.int .i64 x.f_R)).lies) ((inferInstance : LiesL Try.prog 3 [.int .u8 y.f_What, .int .u8 y.f_Round, .int .u8 y.f_Id, .int .i64 y.f_R] 3 (.int .i64 y.f_R)).lies) trivial))))
  · cases x; cases y; simp only [Result.ok.injEq, and_true]; rw [Bool.eq_iff_iff]; simp⟩
theorem mixed : Try.prog.follows .mixedOrders = true := by kernel_rfl
end Go.Proofs.Ytcgjmlapmdbnmaa
