/- What the functions of this seat compute, found by walking their code symbolically: each F is what the walk finds, each ok says that the Go function keeps it as a contract. Printed by a program of this repo's. -/
import Derived.Test.YtkpolfffcdocnaaProg
import Derived.KernelRfl
import Derived.Test.YtkpolfffcdocnaaSxClone
import Derived.Test.YtkpolfffcdocnaaNpFnsAtom
open Go Go.Sx
namespace Go.Proofs.Ytkpolfffcdocnaa
set_option maxRecDepth 100000
set_option linter.unusedVariables false
def tt : TT := [(2, ⟨.int .i64, 1, 8, some (.int .i64 0), false⟩), (3, ⟨.int .i64, 1, 8, some (.int .i64 0), false⟩), (4, ⟨.bool, 1, 1, some (.bool false), false⟩), (5, ⟨.int .u8, 1, 1, some (.int .u8 0), false⟩), (9, ⟨.str, 1, 16, some (.string ⟨#[]⟩), false⟩), (23, ⟨.ptr 63, 1, 8, some (.pointer none), false⟩), (25, ⟨.int .i64, 1, 8, some (.int .i64 0), false⟩), (27, ⟨.slice 5, 1, 24, some (.slice none 0 0), false⟩), (29, ⟨.struct [(0, 5, false), (1, 5, false), (2, 27, false)], 3, 32, some (.agg #[.int .u8 0, .int .u8 0, .slice none 0 0]), false⟩), (37, ⟨.slice 45, 1, 24, some (.slice none 0 0), false⟩), (38, ⟨.ptr 43, 1, 8, some (.pointer none), false⟩), (39, ⟨.slice 48, 1, 24, some (.slice none 0 0), false⟩), (40, ⟨.arr 32 4, 32, 32, some (.agg #[.bool false, .bool false, .bool false, .bool false, .bool false, .bool false, .bool false, .bool false, .bool false, .bool false, .bool false, .bool false, .bool false, .bool false, .bool false, .bool false, .bool false, .bool false, .bool false, .bool false, .bool false, .bool false, .bool false, .bool false, .bool false, .bool false, .bool false, .bool false, .bool false, .bool false, .bool false, .bool false]), false⟩), (41, ⟨.arr 32 40, 1024, 1024, some (.agg #[.bool false, .bool false, .bool false, .bool false, .bool false, .bool false, .bool false, .bool false, .bool false, .bool false, .bool false, .bool false, .bool false, .bool false, .bool false, .bool false, .bool false, .bool false, .bool false, .bool false, .bool false, .bool false, .bool false, .bool false, .bool false, .bool false, .bool false, .bool false, .bool false, .bool false, .bool false, .bool false, .bool false, .bool false, .bool false, .bool false, .bool false, .bool false, .bool false, .bool false, .bool false, .bool false, .bool false, .bool false, .bool false, .bool false, .bool false, .bool false, .bool false, .bool false, .bool false, .bool false, .bool false, .bool false, .bool false, .bool false, .bool false, .bool false, .bool false, .bool false, .bool false, .bool false, .bool false, .bool false, .bool false, .bool false, .bool false, .bool false, .bool false, .bool false, .bool false, .bool false, .bool false, .bool false, .bool false, .bool false, .bool false, .bool false, .bool false, .bool false, .bool false, .bool false, .bool false, .bool false, .bool false, .bool false, .bool false, .bool false, .bool false, .bool false, .bool false, .bool false, .bool false, .bool false, .bool false, .bool false, .bool false, .bool false, .bool false, .bool false, .bool false, .bool false, .bool false, .bool false, .bool false, .bool false, .bool false, .bool false, .bool false, .bool false, .bool false, .bool false, .bool false, .bool false, .bool false, .bool false, .bool false, .bool false, .bool false, .bool false, .bool false, .bool false, .bool false, .bool false, .bool false, .bool false, .bool false, .bool false, .bool false, .bool false, .bool false, .bool false, .bool false, .bool false, .bool false, .bool false, .bool false, .bool false, .bool false, .bool false, .bool false, .bool false, .bool false, .bool false, .bool false, .bool false, .bool false, .bool false, .bool false, .bool false, .bool false, .bool false, .bool false, .bool false, .bool false, .bool false, .bool false, .bool false, .bool false, .bool false, .bool false, .bool false, .bool false, .bool false, .bool false, .bool false, .bool false, .bool false, .bool false, .bool false, .bool false, .bool false, .bool false, .bool false, .bool false, .bool false, .bool false, .bool false, .bool false, .bool false, .bool false, .bool false, .bool false, .bool false, .bool false, .bool false, .bool false, .bool false, .bool false, .bool false, .bool false, .bool false, .bool false, .bool false, .bool false, .bool false, .bool false, .bool false, .bool false, .bool false, .bool false, .bool false, .bool false, .bool false, .bool false, .bool false, .bool false, .bool false, .bool false, .bool false, .bool false, .bool false, .bool false, .bool false, .bool false, .bool false, .bool false, .bool false, .bool false, .bool false, .bool false, .bool false, .bool false, .bool false, .bool false, .bool false, .bool false, .bool false, .bool false, .bool false, .bool false, .bool false, .bool false, .bool false, .bool false, .bool false, .bool false, .bool false, .bool false, .bool false, .bool false, .bool false, .bool false, .bool false, .bool false, .bool false, .bool false, .bool false, .bool false, .bool false, .bool false, .bool false, .bool false, .bool false, .bool false, .bool false, .bool false, .bool false, .bool false, .bool false, .bool false, .bool false, .bool false, .bool false, .bool false, .bool false, .bool false, .bool false, .bool false, .bool false, .bool false, .bool false, .bool false, .bool false, .bool false, .bool false, .bool false, .bool false, .bool false, .bool false, .bool false, .bool false, .bool false, .bool false, .bool false, .bool false, .bool false, .bool false, .bool false, .bool false, .bool false, .bool false, .bool false, .bool false, .bool false, .bool false, .bool false, .bool false, .bool false, .bool false, .bool false, .bool false, .bool false, .bool false, .bool false, .bool false, .bool false, .bool false, .bool false, .bool false, .bool false, .bool false, .bool false, .bool false, .bool false, .bool false, .bool false, .bool false, .bool false, .bool false, .bool false, .bool false, .bool false, .bool false, .bool false, .bool false, .bool false, .bool false, .bool false, .bool false, .bool false, .bool false, .bool false, .bool false, .bool false, .bool false, .bool false, .bool false, .bool false, .bool false, .bool false, .bool false, .bool false, .bool false, .bool false, .bool false, .bool false, .bool false, .bool false, .bool false, .bool false, .bool false, .bool false, .bool false, .bool false, .bool false, .bool false, .bool false, .bool false, .bool false, .bool false, .bool false, .bool false, .bool false, .bool false, .bool false, .bool false, .bool false, .bool false, .bool false, .bool false, .bool false, .bool false, .bool false, .bool false, .bool false, .bool false, .bool false, .bool false, .bool false, .bool false, .bool false, .bool false, .bool false, .bool false, .bool false, .bool false, .bool false, .bool false, .bool false, .bool false, .bool false, .bool false, .bool false, .bool false, .bool false, .bool false, .bool false, .bool false, .bool false, .bool false, .bool false, .bool false, .bool false, .bool false, .bool false, .bool false, .bool false, .bool false, .bool false, .bool false, .bool false, .bool false, .bool false, .bool false, .bool false, .bool false, .bool false, .bool false, .bool false, .bool false, .bool false, .bool false, .bool false, .bool false, .bool false, .bool false, .bool false, .bool false, .bool false, .bool false, .bool false, .bool false, .bool false, .bool false, .bool false, .bool false, .bool false, .bool false, .bool false, .bool false, .bool false, .bool false, .bool false, .bool false, .bool false, .bool false, .bool false, .bool false, .bool false, .bool false, .bool false, .bool false, .bool false, .bool false, .bool false, .bool false, .bool false, .bool false, .bool false, .bool false, .bool false, .bool false, .bool false, .bool false, .bool false, .bool false, .bool false, .bool false, .bool false, .bool false, .bool false, .bool false, .bool false, .bool false, .bool false, .bool false, .bool false, .bool false, .bool false, .bool false, .bool false, .bool false, .bool false, .bool false, .bool false, .bool false, .bool false, .bool false, .bool false, .bool false, .bool false, .bool false, .bool false, .bool false, .bool false, .bool false, .bool false, .bool false, .bool false, .bool false, .bool false, .bool false, .bool false, .bool false, .bool false, .bool false, .bool false, .bool false, .bool false, .bool false, .bool false, .bool false, .bool false, .bool false, .bool false, .bool false, .bool false, .bool false, .bool false, .bool false, .bool false, .bool false, .bool false, .bool false, .bool false, .bool false, .bool false, .bool false, .bool false, .bool false, .bool false, .bool false, .bool false, .bool false, .bool false, .bool false, .bool false, .bool false, .bool false, .bool false, .bool false, .bool false, .bool false, .bool false, .bool false, .bool false, .bool false, .bool false, .bool false, .bool false, .bool false, .bool false, .bool false, .bool false, .bool false, .bool false, .bool false, .bool false, .bool false, .bool false, .bool false, .bool false, .bool false, .bool false, .bool false, .bool false, .bool false, .bool false, .bool false, .bool false, .bool false, .bool false, .bool false, .bool false, .bool false, .bool false, .bool false, .bool false, .bool false, .bool false, .bool false, .bool false, .bool false, .bool false, .bool false, .bool false, .bool false, .bool false, .bool false, .bool false, .bool false, .bool false, .bool false, .bool false, .bool false, .bool false, .bool false, .bool false, .bool false, .bool false, .bool false, .bool false, .bool false, .bool false, .bool false, .bool false, .bool false, .bool false, .bool false, .bool false, .bool false, .bool false, .bool false, .bool false, .bool false, .bool false, .bool false, .bool false, .bool false, .bool false, .bool false, .bool false, .bool false, .bool false, .bool false, .bool false, .bool false, .bool false, .bool false, .bool false, .bool false, .bool false, .bool false, .bool false, .bool false, .bool false, .bool false, .bool false, .bool false, .bool false, .bool false, .bool false, .bool false, .bool false, .bool false, .bool false, .bool false, .bool false, .bool false, .bool false, .bool false, .bool false, .bool false, .bool false, .bool false, .bool false, .bool false, .bool false, .bool false, .bool false, .bool false, .bool false, .bool false, .bool false, .bool false, .bool false, .bool false, .bool false, .bool false, .bool false, .bool false, .bool false, .bool false, .bool false, .bool false, .bool false, .bool false, .bool false, .bool false, .bool false, .bool false, .bool false, .bool false, .bool false, .bool false, .bool false, .bool false, .bool false, .bool false, .bool false, .bool false, .bool false, .bool false, .bool false, .bool false, .bool false, .bool false, .bool false, .bool false, .bool false, .bool false, .bool false, .bool false, .bool false, .bool false, .bool false, .bool false, .bool false, .bool false, .bool false, .bool false, .bool false, .bool false, .bool false, .bool false, .bool false, .bool false, .bool false, .bool false, .bool false, .bool false, .bool false, .bool false, .bool false, .bool false, .bool false, .bool false, .bool false, .bool false, .bool false, .bool false, .bool false, .bool false, .bool false, .bool false, .bool false, .bool false, .bool false, .bool false, .bool false, .bool false, .bool false, .bool false, .bool false, .bool false, .bool false, .bool false, .bool false, .bool false, .bool false, .bool false, .bool false, .bool false, .bool false, .bool false, .bool false, .bool false, .bool false, .bool false, .bool false, .bool false, .bool false, .bool false, .bool false, .bool false, .bool false, .bool false, .bool false, .bool false, .bool false, .bool false, .bool false, .bool false, .bool false, .bool false, .bool false, .bool false, .bool false, .bool false, .bool false, .bool false, .bool false, .bool false, .bool false, .bool false, .bool false, .bool false, .bool false, .bool false, .bool false, .bool false, .bool false, .bool false, .bool false, .bool false, .bool false, .bool false, .bool false, .bool false, .bool false, .bool false, .bool false, .bool false, .bool false, .bool false, .bool false, .bool false, .bool false, .bool false, .bool false, .bool false, .bool false, .bool false, .bool false, .bool false, .bool false, .bool false, .bool false, .bool false, .bool false, .bool false, .bool false, .bool false, .bool false, .bool false, .bool false, .bool false, .bool false, .bool false, .bool false, .bool false, .bool false, .bool false, .bool false, .bool false, .bool false, .bool false, .bool false, .bool false, .bool false, .bool false, .bool false, .bool false, .bool false, .bool false, .bool false, .bool false, .bool false, .bool false, .bool false, .bool false, .bool false, .bool false, .bool false, .bool false, .bool false, .bool false, .bool false, .bool false, .bool false, .bool false, .bool false, .bool false, .bool false, .bool false, .bool false, .bool false, .bool false, .bool false, .bool false, .bool false, .bool false, .bool false, .bool false, .bool false, .bool false, .bool false, .bool false, .bool false, .bool false, .bool false, .bool false, .bool false, .bool false, .bool false, .bool false, .bool false, .bool false, .bool false, .bool false, .bool false, .bool false, .bool false, .bool false, .bool false, .bool false, .bool false, .bool false, .bool false, .bool false, .bool false, .bool false, .bool false, .bool false, .bool false, .bool false, .bool false, .bool false, .bool false, .bool false, .bool false, .bool false, .bool false, .bool false, .bool false, .bool false, .bool false, .bool false, .bool false, .bool false, .bool false, .bool false, .bool false, .bool false, .bool false, .bool false, .bool false, .bool false, .bool false, .bool false, .bool false, .bool false, .bool false, .bool false, .bool false, .bool false, .bool false, .bool false, .bool false, .bool false, .bool false, .bool false, .bool false, .bool false, .bool false, .bool false, .bool false, .bool false, .bool false, .bool false, .bool false, .bool false, .bool false, .bool false, .bool false, .bool false, .bool false, .bool false, .bool false, .bool false, .bool false, .bool false, .bool false, .bool false, .bool false, .bool false, .bool false, .bool false, .bool false, .bool false, .bool false, .bool false, .bool false, .bool false, .bool false, .bool false, .bool false, .bool false, .bool false, .bool false, .bool false, .bool false, .bool false, .bool false, .bool false, .bool false, .bool false, .bool false, .bool false, .bool false, .bool false, .bool false, .bool false, .bool false, .bool false, .bool false, .bool false, .bool false, .bool false, .bool false, .bool false, .bool false, .bool false, .bool false, .bool false, .bool false, .bool false, .bool false, .bool false, .bool false, .bool false, .bool false, .bool false, .bool false, .bool false, .bool false, .bool false, .bool false, .bool false, .bool false, .bool false, .bool false, .bool false]), false⟩), (43, ⟨.struct [(0, 39, false), (1, 41, false), (1025, 2, false), (1026, 2, false), (1027, 2, false)], 1028, 1072, some (.agg #[.slice none 0 0, .bool false, .bool false, .bool false, .bool false, .bool false, .bool false, .bool false, .bool false, .bool false, .bool false, .bool false, .bool false, .bool false, .bool false, .bool false, .bool false, .bool false, .bool false, .bool false, .bool false, .bool false, .bool false, .bool false, .bool false, .bool false, .bool false, .bool false, .bool false, .bool false, .bool false, .bool false, .bool false, .bool false, .bool false, .bool false, .bool false, .bool false, .bool false, .bool false, .bool false, .bool false, .bool false, .bool false, .bool false, .bool false, .bool false, .bool false, .bool false, .bool false, .bool false, .bool false, .bool false, .bool false, .bool false, .bool false, .bool false, .bool false, .bool false, .bool false, .bool false, .bool false, .bool false, .bool false, .bool false, .bool false, .bool false, .bool false, .bool false, .bool false, .bool false, .bool false, .bool false, .bool false, .bool false, .bool false, .bool false, .bool false, .bool false, .bool false, .bool false, .bool false, .bool false, .bool false, .bool false, .bool false, .bool false, .bool false, .bool false, .bool false, .bool false, .bool false, .bool false, .bool false, .bool false, .bool false, .bool false, .bool false, .bool false, .bool false, .bool false, .bool false, .bool false, .bool false, .bool false, .bool false, .bool false, .bool false, .bool false, .bool false, .bool false, .bool false, .bool false, .bool false, .bool false, .bool false, .bool false, .bool false, .bool false, .bool false, .bool false, .bool false, .bool false, .bool false, .bool false, .bool false, .bool false, .bool false, .bool false, .bool false, .bool false, .bool false, .bool false, .bool false, .bool false, .bool false, .bool false, .bool false, .bool false, .bool false, .bool false, .bool false, .bool false, .bool false, .bool false, .bool false, .bool false, .bool false, .bool false, .bool false, .bool false, .bool false, .bool false, .bool false, .bool false, .bool false, .bool false, .bool false, .bool false, .bool false, .bool false, .bool false, .bool false, .bool false, .bool false, .bool false, .bool false, .bool false, .bool false, .bool false, .bool false, .bool false, .bool false, .bool false, .bool false, .bool false, .bool false, .bool false, .bool false, .bool false, .bool false, .bool false, .bool false, .bool false, .bool false, .bool false, .bool false, .bool false, .bool false, .bool false, .bool false, .bool false, .bool false, .bool false, .bool false, .bool false, .bool false, .bool false, .bool false, .bool false, .bool false, .bool false, .bool false, .bool false, .bool false, .bool false, .bool false, .bool false, .bool false, .bool false, .bool false, .bool false, .bool false, .bool false, .bool false, .bool false, .bool false, .bool false, .bool false, .bool false, .bool false, .bool false, .bool false, .bool false, .bool false, .bool false, .bool false, .bool false, .bool false, .bool false, .bool false, .bool false, .bool false, .bool false, .bool false, .bool false, .bool false, .bool false, .bool false, .bool false, .bool false, .bool false, .bool false, .bool false, .bool false, .bool false, .bool false, .bool false, .bool false, .bool false, .bool false, .bool false, .bool false, .bool false, .bool false, .bool false, .bool false, .bool false, .bool false, .bool false, .bool false, .bool false, .bool false, .bool false, .bool false, .bool false, .bool false, .bool false, .bool false, .bool false, .bool false, .bool false, .bool false, .bool false, .bool false, .bool false, .bool false, .bool false, .bool false, .bool false, .bool false, .bool false, .bool false, .bool false, .bool false, .bool false, .bool false, .bool false, .bool false, .bool false, .bool false, .bool false, .bool false, .bool false, .bool false, .bool false, .bool false, .bool false, .bool false, .bool false, .bool false, .bool false, .bool false, .bool false, .bool false, .bool false, .bool false, .bool false, .bool false, .bool false, .bool false, .bool false, .bool false, .bool false, .bool false, .bool false, .bool false, .bool false, .bool false, .bool false, .bool false, .bool false, .bool false, .bool false, .bool false, .bool false, .bool false, .bool false, .bool false, .bool false, .bool false, .bool false, .bool false, .bool false, .bool false, .bool false, .bool false, .bool false, .bool false, .bool false, .bool false, .bool false, .bool false, .bool false, .bool false, .bool false, .bool false, .bool false, .bool false, .bool false, .bool false, .bool false, .bool false, .bool false, .bool false, .bool false, .bool false, .bool false, .bool false, .bool false, .bool false, .bool false, .bool false, .bool false, .bool false, .bool false, .bool false, .bool false, .bool false, .bool false, .bool false, .bool false, .bool false, .bool false, .bool false, .bool false, .bool false, .bool false, .bool false, .bool false, .bool false, .bool false, .bool false, .bool false, .bool false, .bool false, .bool false, .bool false, .bool false, .bool false, .bool false, .bool false, .bool false, .bool false, .bool false, .bool false, .bool false, .bool false, .bool false, .bool false, .bool false, .bool false, .bool false, .bool false, .bool false, .bool false, .bool false, .bool false, .bool false, .bool false, .bool false, .bool false, .bool false, .bool false, .bool false, .bool false, .bool false, .bool false, .bool false, .bool false, .bool false, .bool false, .bool false, .bool false, .bool false, .bool false, .bool false, .bool false, .bool false, .bool false, .bool false, .bool false, .bool false, .bool false, .bool false, .bool false, .bool false, .bool false, .bool false, .bool false, .bool false, .bool false, .bool false, .bool false, .bool false, .bool false, .bool false, .bool false, .bool false, .bool false, .bool false, .bool false, .bool false, .bool false, .bool false, .bool false, .bool false, .bool false, .bool false, .bool false, .bool false, .bool false, .bool false, .bool false, .bool false, .bool false, .bool false, .bool false, .bool false, .bool false, .bool false, .bool false, .bool false, .bool false, .bool false, .bool false, .bool false, .bool false, .bool false, .bool false, .bool false, .bool false, .bool false, .bool false, .bool false, .bool false, .bool false, .bool false, .bool false, .bool false, .bool false, .bool false, .bool false, .bool false, .bool false, .bool false, .bool false, .bool false, .bool false, .bool false, .bool false, .bool false, .bool false, .bool false, .bool false, .bool false, .bool false, .bool false, .bool false, .bool false, .bool false, .bool false, .bool false, .bool false, .bool false, .bool false, .bool false, .bool false, .bool false, .bool false, .bool false, .bool false, .bool false, .bool false, .bool false, .bool false, .bool false, .bool false, .bool false, .bool false, .bool false, .bool false, .bool false, .bool false, .bool false, .bool false, .bool false, .bool false, .bool false, .bool false, .bool false, .bool false, .bool false, .bool false, .bool false, .bool false, .bool false, .bool false, .bool false, .bool false, .bool false, .bool false, .bool false, .bool false, .bool false, .bool false, .bool false, .bool false, .bool false, .bool false, .bool false, .bool false, .bool false, .bool false, .bool false, .bool false, .bool false, .bool false, .bool false, .bool false, .bool false, .bool false, .bool false, .bool false, .bool false, .bool false, .bool false, .bool false, .bool false, .bool false, .bool false, .bool false, .bool false, .bool false, .bool false, .bool false, .bool false, .bool false, .bool false, .bool false, .bool false, .bool false, .bool false, .bool false, .bool false, .bool false, .bool false, .bool false, .bool false, .bool false, .bool false, .bool false, .bool false, .bool false, .bool false, .bool false, .bool false, .bool false, .bool false, .bool false, .bool false, .bool false, .bool false, .bool false, .bool false, .bool false, .bool false, .bool false, .bool false, .bool false, .bool false, .bool false, .bool false, .bool false, .bool false, .bool false, .bool false, .bool false, .bool false, .bool false, .bool false, .bool false, .bool false, .bool false, .bool false, .bool false, .bool false, .bool false, .bool false, .bool false, .bool false, .bool false, .bool false, .bool false, .bool false, .bool false, .bool false, .bool false, .bool false, .bool false, .bool false, .bool false, .bool false, .bool false, .bool false, .bool false, .bool false, .bool false, .bool false, .bool false, .bool false, .bool false, .bool false, .bool false, .bool false, .bool false, .bool false, .bool false, .bool false, .bool false, .bool false, .bool false, .bool false, .bool false, .bool false, .bool false, .bool false, .bool false, .bool false, .bool false, .bool false, .bool false, .bool false, .bool false, .bool false, .bool false, .bool false, .bool false, .bool false, .bool false, .bool false, .bool false, .bool false, .bool false, .bool false, .bool false, .bool false, .bool false, .bool false, .bool false, .bool false, .bool false, .bool false, .bool false, .bool false, .bool false, .bool false, .bool false, .bool false, .bool false, .bool false, .bool false, .bool false, .bool false, .bool false, .bool false, .bool false, .bool false, .bool false, .bool false, .bool false, .bool false, .bool false, .bool false, .bool false, .bool false, .bool false, .bool false, .bool false, .bool false, .bool false, .bool false, .bool false, .bool false, .bool false, .bool false, .bool false, .bool false, .bool false, .bool false, .bool false, .bool false, .bool false, .bool false, .bool false, .bool false, .bool false, .bool false, .bool false, .bool false, .bool false, .bool false, .bool false, .bool false, .bool false, .bool false, .bool false, .bool false, .bool false, .bool false, .bool false, .bool false, .bool false, .bool false, .bool false, .bool false, .bool false, .bool false, .bool false, .bool false, .bool false, .bool false, .bool false, .bool false, .bool false, .bool false, .bool false, .bool false, .bool false, .bool false, .bool false, .bool false, .bool false, .bool false, .bool false, .bool false, .bool false, .bool false, .bool false, .bool false, .bool false, .bool false, .bool false, .bool false, .bool false, .bool false, .bool false, .bool false, .bool false, .bool false, .bool false, .bool false, .bool false, .bool false, .bool false, .bool false, .bool false, .bool false, .bool false, .bool false, .bool false, .bool false, .bool false, .bool false, .bool false, .bool false, .bool false, .bool false, .bool false, .bool false, .bool false, .bool false, .bool false, .bool false, .bool false, .bool false, .bool false, .bool false, .bool false, .bool false, .bool false, .bool false, .bool false, .bool false, .bool false, .bool false, .bool false, .bool false, .bool false, .bool false, .bool false, .bool false, .bool false, .bool false, .bool false, .bool false, .bool false, .bool false, .bool false, .bool false, .bool false, .bool false, .bool false, .bool false, .bool false, .bool false, .bool false, .bool false, .bool false, .bool false, .bool false, .bool false, .bool false, .bool false, .bool false, .bool false, .bool false, .bool false, .bool false, .bool false, .bool false, .bool false, .bool false, .bool false, .bool false, .bool false, .bool false, .bool false, .bool false, .bool false, .bool false, .bool false, .bool false, .bool false, .bool false, .bool false, .bool false, .bool false, .bool false, .bool false, .bool false, .bool false, .bool false, .bool false, .bool false, .bool false, .bool false, .bool false, .bool false, .bool false, .bool false, .bool false, .bool false, .bool false, .bool false, .bool false, .bool false, .bool false, .bool false, .bool false, .bool false, .bool false, .bool false, .bool false, .bool false, .bool false, .bool false, .bool false, .bool false, .bool false, .bool false, .bool false, .bool false, .bool false, .bool false, .bool false, .bool false, .bool false, .bool false, .bool false, .bool false, .bool false, .bool false, .bool false, .bool false, .bool false, .bool false, .bool false, .bool false, .bool false, .bool false, .bool false, .bool false, .bool false, .bool false, .bool false, .bool false, .bool false, .bool false, .bool false, .bool false, .bool false, .bool false, .bool false, .bool false, .bool false, .bool false, .bool false, .bool false, .bool false, .bool false, .bool false, .bool false, .bool false, .bool false, .bool false, .bool false, .bool false, .bool false, .bool false, .bool false, .bool false, .bool false, .bool false, .bool false, .bool false, .bool false, .bool false, .bool false, .bool false, .bool false, .bool false, .bool false, .bool false, .bool false, .bool false, .bool false, .bool false, .bool false, .bool false, .bool false, .bool false, .bool false, .bool false, .bool false, .bool false, .bool false, .bool false, .bool false, .bool false, .bool false, .bool false, .bool false, .bool false, .bool false, .bool false, .bool false, .bool false, .bool false, .bool false, .bool false, .bool false, .bool false, .bool false, .bool false, .bool false, .bool false, .bool false, .bool false, .bool false, .bool false, .bool false, .bool false, .bool false, .bool false, .int .i64 0, .int .i64 0, .int .i64 0]), false⟩), (45, ⟨.struct [(0, 5, false), (1, 5, false), (2, 5, false), (3, 27, false), (4, 3, false), (5, 3, false), (6, 4, false)], 7, 56, some (.agg #[.int .u8 0, .int .u8 0, .int .u8 0, .slice none 0 0, .int .i64 0, .int .i64 0, .bool false]), false⟩), (46, ⟨.int .u64, 1, 8, some (.int .u64 0), false⟩), (48, ⟨.struct [(0, 5, false), (1, 5, false), (2, 9, false), (3, 4, false)], 4, 32, some (.agg #[.int .u8 0, .int .u8 0, .string ⟨#[]⟩, .bool false]), false⟩), (55, ⟨.map 65 4, 1, 8, some (.map none), false⟩), (56, ⟨.slice 68, 1, 24, some (.slice none 0 0), false⟩), (58, ⟨.struct [], 0, 0, some (.agg #[]), false⟩), (59, ⟨.struct [], 0, 0, some (.agg #[]), false⟩), (61, ⟨.struct [(0, 58, true), (0, 59, true), (0, 2, false)], 1, 8, some (.agg #[.int .i64 0]), false⟩), (63, ⟨.struct [(0, 56, false), (1, 55, false), (2, 61, false), (3, 61, false), (4, 61, false)], 5, 56, some (.agg #[.slice none 0 0, .map none, .int .i64 0, .int .i64 0, .int .i64 0]), false⟩), (65, ⟨.arr 2 5, 2, 2, some (.agg #[.int .u8 0, .int .u8 0]), false⟩), (68, ⟨.struct [(0, 29, false), (3, 4, false)], 4, 40, some (.agg #[.int .u8 0, .int .u8 0, .slice none 0 0, .bool false]), false⟩)]
theorem tt_ok : TTOK Try.prog tt := TTOK.of_rows (by kernel_rfl)
theorem mix : Try.prog.follows .mixedOrders = true := by kernel_rfl
-- watchfire/net.New
def sig8 : Sig := ⟨.nil, (.cons (.one (.ptr (.cons (.row (.cons (.int .u8) (.cons (.int .u8) (.cons (.ro (.cons (.int .u8) .nil)) (.cons .bool .nil))))) (.cons (.map (.agg (.cons (.int .u8) (.cons (.int .u8) .nil))) (.one .bool)) (.cons (.c (.int .i64)) (.cons (.c (.int .i64)) (.cons (.c (.int .i64)) .nil))))))) .nil)⟩
def F8 : Nat →
 Unit →
 Option
 (Option (List (UInt8 × UInt8 × List UInt8 × Bool) × List ((UInt8 × UInt8) × Bool) × Int64 × Int64 × Int64) ×
 Unit) := fun (n : Nat) (x : Unit) =>
 some
 (some
 (@List.nil (UInt8 × UInt8 × List UInt8 × Bool), @List.nil ((UInt8 × UInt8) × Bool), (0 : Int64), (0 : Int64),
 (0 : Int64)),
 ())
theorem ok8 (n : Nat) : FunOK Try.prog ⟨8, sig8, F8 n⟩ :=
 fun_ok (hints := ⟨[], []⟩) (fuel := n) (c := Try.f8.body.getD .skip) (rs := Try.f8.results.toList) tt_ok mix (FsOK.nil) Try.func8 (by kernel_rfl) (by kernel_rfl) rfl (by kernel_rfl) rfl rfl (by kernel_rfl)
-- (*sync/atomic.Int64).Add
def sig21 : Sig := ⟨(.cons (.oagg .nil) (.cons (.one (.c (.int .i64))) .nil)), (.cons (.one (.c (.int .i64))) .nil)⟩
def F21 (n : Nat) : sig21.In → Option sig21.Out := fun _ => none
theorem ok21 (n : Nat) : FunOK Try.prog ⟨21, sig21, F21 n⟩ := ⟨atom21, _, Try.func21, by kernel_rfl, by kernel_rfl⟩
-- watchfire/net.link
def sig22 : Sig := ⟨(.cons (.one (.c (.int .u8))) (.cons (.one (.c (.int .u8))) .nil)), (.cons (.agg (.cons (.int .u8) (.cons (.int .u8) .nil))) .nil)⟩
def F22 : Nat → UInt8 × UInt8 → Option ((UInt8 × UInt8) × Unit) := fun (n : Nat) (x : UInt8 × UInt8) =>
 some ((IK.minI IntKind.u8 (Prod.fst x) (Prod.snd x), IK.maxI IntKind.u8 (Prod.fst x) (Prod.snd x)), ())
theorem ok22 (n : Nat) : FunOK Try.prog ⟨22, sig22, F22 n⟩ :=
 fun_ok (hints := ⟨[], []⟩) (fuel := n) (c := Try.f22.body.getD .skip) (rs := Try.f22.results.toList) tt_ok mix (FsOK.nil) Try.func22 (by kernel_rfl) (by kernel_rfl) rfl (by kernel_rfl) rfl rfl (by kernel_rfl)
-- (*watchfire/net.Net).Send
def sig9 : Sig := ⟨(.cons (.one (.ptr (.cons (.row (.cons (.int .u8) (.cons (.int .u8) (.cons (.ro (.cons (.int .u8) .nil)) (.cons .bool .nil))))) (.cons (.map (.agg (.cons (.int .u8) (.cons (.int .u8) .nil))) (.one .bool)) (.cons (.c (.int .i64)) (.cons (.c (.int .i64)) (.cons (.c (.int .i64)) .nil))))))) (.cons (.agg (.cons (.int .u8) (.cons (.int .u8) (.cons (.ro (.cons (.int .u8) .nil)) .nil)))) .nil)), (.cons (.one (.c (.int .i64))) .nil)⟩
def F9 : Nat →
 Option (List (UInt8 × UInt8 × List UInt8 × Bool) × List ((UInt8 × UInt8) × Bool) × Int64 × Int64 × Int64) ×
 UInt8 × UInt8 × List UInt8 →
 Option
 (Int64 ×
 Option (List (UInt8 × UInt8 × List UInt8 × Bool) × List ((UInt8 × UInt8) × Bool) × Int64 × Int64 × Int64)) := fun (n : Nat)
 (x :
 Option (List (UInt8 × UInt8 × List UInt8 × Bool) × List ((UInt8 × UInt8) × Bool) × Int64 × Int64 × Int64) ×
 UInt8 × UInt8 × List UInt8) =>
 oelim (Prod.fst x) (some ((1 : Int64), none))
 fun (x_1 : List (UInt8 × UInt8 × List UInt8 × Bool) × List ((UInt8 × UInt8) × Bool) × Int64 × Int64 × Int64) =>
 oite (decide ((32 : UInt8) ≤ Prod.fst (Prod.snd x)))
 (some
 ((20 : Int64),
 some
 (Prod.fst x_1, Prod.fst (Prod.snd x_1), Prod.fst (Prod.snd (Prod.snd x_1)),
 Prod.fst (Prod.snd (Prod.snd (Prod.snd x_1))), Prod.snd (Prod.snd (Prod.snd (Prod.snd x_1))))))
 (oite (decide ((32 : UInt8) ≤ Prod.fst (Prod.snd (Prod.snd x))))
 (some
 ((20 : Int64),
 some
 (Prod.fst x_1, Prod.fst (Prod.snd x_1), Prod.fst (Prod.snd (Prod.snd x_1)),
 Prod.fst (Prod.snd (Prod.snd (Prod.snd x_1))), Prod.snd (Prod.snd (Prod.snd (Prod.snd x_1))))))
 (oite (decide (Prod.fst (Prod.snd x) = Prod.fst (Prod.snd (Prod.snd x))))
 (some
 ((20 : Int64),
 some
 (Prod.fst x_1, Prod.fst (Prod.snd x_1), Prod.fst (Prod.snd (Prod.snd x_1)),
 Prod.fst (Prod.snd (Prod.snd (Prod.snd x_1))), Prod.snd (Prod.snd (Prod.snd (Prod.snd x_1))))))
 (oite (decide ((65536 : Int64) < Int64.ofInt ↑(List.length (Prod.snd (Prod.snd (Prod.snd x))))))
 (some
 ((4 : Int64),
 some
 (Prod.fst x_1, Prod.fst (Prod.snd x_1), Prod.fst (Prod.snd (Prod.snd x_1)),
 Prod.fst (Prod.snd (Prod.snd (Prod.snd x_1))), Prod.snd (Prod.snd (Prod.snd (Prod.snd x_1))))))
 (obind (F22 n (Prod.fst (Prod.snd x), Prod.fst (Prod.snd (Prod.snd x))))
 fun (x_2 : (UInt8 × UInt8) × Unit) =>
 oite
 (Option.getD
 (mget (VT.agg (CTs.cons (CT.int IntKind.u8) (CTs.cons (CT.int IntKind.u8) CTs.nil))) (VT.one CT.bool)
 (Prod.fst (Prod.fst x_2), Prod.snd (Prod.fst x_2)) (Prod.fst (Prod.snd x_1)))
 false)
 (some
 ((21 : Int64),
 some
 (Prod.fst x_1, Prod.fst (Prod.snd x_1), Prod.fst (Prod.snd (Prod.snd x_1)) + (1 : Int64),
 Prod.fst (Prod.snd (Prod.snd (Prod.snd x_1))),
 Prod.snd (Prod.snd (Prod.snd (Prod.snd x_1))) + (1 : Int64))))
 (oite (decide (Int64.ofInt ↑(List.length (Prod.fst x_1)) = (4096 : Int64)))
 (some
 ((13 : Int64),
 some
 (Prod.fst x_1, Prod.fst (Prod.snd x_1), Prod.fst (Prod.snd (Prod.snd x_1)) + (1 : Int64),
 Prod.fst (Prod.snd (Prod.snd (Prod.snd x_1))),
 Prod.snd (Prod.snd (Prod.snd (Prod.snd x_1))) + (1 : Int64))))
 (oite (Nat.ble ((0 : Nat) + List.length (Prod.snd (Prod.snd (Prod.snd x)))) (4294967296 : Nat))
 (oite
 (Nat.ble
 (List.length (Prod.fst x_1) +
 List.length
 [(Prod.fst (Prod.snd x), Prod.fst (Prod.snd (Prod.snd x)),
 [] ++ Prod.snd (Prod.snd (Prod.snd x)), false)])
 (4294967296 : Nat))
 (some
 ((0 : Int64),
 some
 (Prod.fst x_1 ++
 [(Prod.fst (Prod.snd x), Prod.fst (Prod.snd (Prod.snd x)),
 [] ++ Prod.snd (Prod.snd (Prod.snd x)), false)],
 Prod.fst (Prod.snd x_1), Prod.fst (Prod.snd (Prod.snd x_1)) + (1 : Int64),
 Prod.fst (Prod.snd (Prod.snd (Prod.snd x_1))),
 Prod.snd (Prod.snd (Prod.snd (Prod.snd x_1))))))
 none)
 none))))))
theorem ok9 (n : Nat) : FunOK Try.prog ⟨9, sig9, F9 n⟩ :=
 fun_ok (hints := ⟨[], []⟩) (fuel := n) (c := Try.f9.body.getD .skip) (rs := Try.f9.results.toList) tt_ok mix (FsOK.cons (ok21 n) (FsOK.cons (ok22 n) (FsOK.nil))) Try.func9 (by kernel_rfl) (by kernel_rfl) rfl (by kernel_rfl) rfl rfl (by kernel_rfl)
-- (*watchfire/net.Net).Len
def sig11 : Sig := ⟨(.cons (.one (.ptr (.cons (.row (.cons (.int .u8) (.cons (.int .u8) (.cons (.ro (.cons (.int .u8) .nil)) (.cons .bool .nil))))) (.cons (.map (.agg (.cons (.int .u8) (.cons (.int .u8) .nil))) (.one .bool)) (.cons (.c (.int .i64)) (.cons (.c (.int .i64)) (.cons (.c (.int .i64)) .nil))))))) .nil), (.cons (.one (.c (.int .i64))) .nil)⟩
def F11 : Nat →
 Option (List (UInt8 × UInt8 × List UInt8 × Bool) × List ((UInt8 × UInt8) × Bool) × Int64 × Int64 × Int64) →
 Option
 (Int64 ×
 Option (List (UInt8 × UInt8 × List UInt8 × Bool) × List ((UInt8 × UInt8) × Bool) × Int64 × Int64 × Int64)) := fun (n : Nat)
 (x : Option (List (UInt8 × UInt8 × List UInt8 × Bool) × List ((UInt8 × UInt8) × Bool) × Int64 × Int64 × Int64)) =>
 oelim x (some ((0 : Int64), none))
 fun (x_1 : List (UInt8 × UInt8 × List UInt8 × Bool) × List ((UInt8 × UInt8) × Bool) × Int64 × Int64 × Int64) =>
 some
 (Int64.ofInt ↑(List.length (Prod.fst x_1)),
 some
 (Prod.fst x_1, Prod.fst (Prod.snd x_1), Prod.fst (Prod.snd (Prod.snd x_1)),
 Prod.fst (Prod.snd (Prod.snd (Prod.snd x_1))), Prod.snd (Prod.snd (Prod.snd (Prod.snd x_1)))))
theorem ok11 (n : Nat) : FunOK Try.prog ⟨11, sig11, F11 n⟩ :=
 fun_ok (hints := ⟨[], []⟩) (fuel := n) (c := Try.f11.body.getD .skip) (rs := Try.f11.results.toList) tt_ok mix (FsOK.nil) Try.func11 (by kernel_rfl) (by kernel_rfl) rfl (by kernel_rfl) rfl rfl (by kernel_rfl)
-- (*watchfire/net.Net).has
def sig23 : Sig := ⟨(.cons (.one (.ptr (.cons (.row (.cons (.int .u8) (.cons (.int .u8) (.cons (.ro (.cons (.int .u8) .nil)) (.cons .bool .nil))))) (.cons (.map (.agg (.cons (.int .u8) (.cons (.int .u8) .nil))) (.one .bool)) (.cons (.c (.int .i64)) (.cons (.c (.int .i64)) (.cons (.c (.int .i64)) .nil))))))) (.cons (.one (.c (.int .i64))) .nil)), (.cons (.one (.c .bool)) .nil)⟩
def F23 : Nat →
 Option (List (UInt8 × UInt8 × List UInt8 × Bool) × List ((UInt8 × UInt8) × Bool) × Int64 × Int64 × Int64) × Int64 →
 Option
 (Bool × Option (List (UInt8 × UInt8 × List UInt8 × Bool) × List ((UInt8 × UInt8) × Bool) × Int64 × Int64 × Int64)) := fun (n : Nat)
 (x :
 Option (List (UInt8 × UInt8 × List UInt8 × Bool) × List ((UInt8 × UInt8) × Bool) × Int64 × Int64 × Int64) ×
 Int64) =>
 oite (decide ((0 : Int64) ≤ Prod.snd x))
 (obind (F11 n (Prod.fst x))
 fun
 (x_1 :
 Int64 ×
 Option
 (List (UInt8 × UInt8 × List UInt8 × Bool) × List ((UInt8 × UInt8) × Bool) × Int64 × Int64 × Int64)) =>
 some (decide (Prod.snd x < Prod.fst x_1), Prod.snd x_1))
 (some (false, Prod.fst x))
theorem ok23 (n : Nat) : FunOK Try.prog ⟨23, sig23, F23 n⟩ :=
 fun_ok (hints := ⟨[], []⟩) (fuel := n) (c := Try.f23.body.getD .skip) (rs := Try.f23.results.toList) tt_ok mix (FsOK.cons (ok11 n) (FsOK.nil)) Try.func23 (by kernel_rfl) (by kernel_rfl) rfl (by kernel_rfl) rfl rfl (by kernel_rfl)
-- (*watchfire/net.Net).Peek
def sig12 : Sig := ⟨(.cons (.one (.ptr (.cons (.row (.cons (.int .u8) (.cons (.int .u8) (.cons (.ro (.cons (.int .u8) .nil)) (.cons .bool .nil))))) (.cons (.map (.agg (.cons (.int .u8) (.cons (.int .u8) .nil))) (.one .bool)) (.cons (.c (.int .i64)) (.cons (.c (.int .i64)) (.cons (.c (.int .i64)) .nil))))))) (.cons (.one (.c (.int .i64))) .nil)), (.cons (.oagg (.cons (.c (.int .u8)) (.cons (.c (.int .u8)) (.cons (.row (.cons (.int .u8) .nil)) .nil)))) (.cons (.one (.c .bool)) .nil))⟩
def F12 : Nat →
 Option (List (UInt8 × UInt8 × List UInt8 × Bool) × List ((UInt8 × UInt8) × Bool) × Int64 × Int64 × Int64) × Int64 →
 Option
 (((UInt8 × UInt8 × List UInt8) × Bool) ×
 Option (List (UInt8 × UInt8 × List UInt8 × Bool) × List ((UInt8 × UInt8) × Bool) × Int64 × Int64 × Int64)) := fun (n : Nat)
 (x :
 Option (List (UInt8 × UInt8 × List UInt8 × Bool) × List ((UInt8 × UInt8) × Bool) × Int64 × Int64 × Int64) ×
 Int64) =>
 obind (F23 n (Prod.fst x, Prod.snd x))
 fun
 (x_1 :
 Bool ×
 Option (List (UInt8 × UInt8 × List UInt8 × Bool) × List ((UInt8 × UInt8) × Bool) × Int64 × Int64 × Int64)) =>
 oite (!Prod.fst x_1) (some ((((0 : UInt8), (0 : UInt8), @List.nil UInt8), false), Prod.snd x_1))
 (obind (Prod.snd x_1)
 fun (x_2 : List (UInt8 × UInt8 × List UInt8 × Bool) × List ((UInt8 × UInt8) × Bool) × Int64 × Int64 × Int64) =>
 oite
 (decide ((0 : Int) ≤ Int64.toInt (Prod.snd x)) &&
 Nat.blt (Int.toNat (Int64.toInt (Prod.snd x))) (List.length (Prod.fst x_2)))
 (obind (Prod.fst x_2)[Int.toNat (Int64.toInt (Prod.snd x))]? fun (x_3 : UInt8 × UInt8 × List UInt8 × Bool) =>
 oite (Nat.ble ((0 : Nat) + List.length (Prod.fst (Prod.snd (Prod.snd x_3)))) (4294967296 : Nat))
 (some
 (((Prod.fst x_3, Prod.fst (Prod.snd x_3), [] ++ Prod.fst (Prod.snd (Prod.snd x_3))), true),
 some
 (Prod.fst x_2, Prod.fst (Prod.snd x_2), Prod.fst (Prod.snd (Prod.snd x_2)),
 Prod.fst (Prod.snd (Prod.snd (Prod.snd x_2))), Prod.snd (Prod.snd (Prod.snd (Prod.snd x_2))))))
 none)
 none)
theorem ok12 (n : Nat) : FunOK Try.prog ⟨12, sig12, F12 n⟩ :=
 fun_ok (hints := ⟨[], []⟩) (fuel := n) (c := Try.f12.body.getD .skip) (rs := Try.f12.results.toList) tt_ok mix (FsOK.cons (ok23 n) (FsOK.nil)) Try.func12 (by kernel_rfl) (by kernel_rfl) rfl (by kernel_rfl) rfl rfl (by kernel_rfl)
-- (*watchfire/net.Net).Double
def sig10 : Sig := ⟨(.cons (.one (.ptr (.cons (.row (.cons (.int .u8) (.cons (.int .u8) (.cons (.ro (.cons (.int .u8) .nil)) (.cons .bool .nil))))) (.cons (.map (.agg (.cons (.int .u8) (.cons (.int .u8) .nil))) (.one .bool)) (.cons (.c (.int .i64)) (.cons (.c (.int .i64)) (.cons (.c (.int .i64)) .nil))))))) (.cons (.one (.c (.int .i64))) .nil)), (.cons (.one (.c .bool)) .nil)⟩
def F10 : Nat →
 Option (List (UInt8 × UInt8 × List UInt8 × Bool) × List ((UInt8 × UInt8) × Bool) × Int64 × Int64 × Int64) × Int64 →
 Option
 (Bool × Option (List (UInt8 × UInt8 × List UInt8 × Bool) × List ((UInt8 × UInt8) × Bool) × Int64 × Int64 × Int64)) := fun (n : Nat)
 (x :
 Option (List (UInt8 × UInt8 × List UInt8 × Bool) × List ((UInt8 × UInt8) × Bool) × Int64 × Int64 × Int64) ×
 Int64) =>
 obind (F12 n (Prod.fst x, Prod.snd x))
 fun
 (x_1 :
 ((UInt8 × UInt8 × List UInt8) × Bool) ×
 Option (List (UInt8 × UInt8 × List UInt8 × Bool) × List ((UInt8 × UInt8) × Bool) × Int64 × Int64 × Int64)) =>
 oite (!Prod.snd (Prod.fst x_1)) (some (false, Prod.snd x_1))
 (obind (F11 n (Prod.snd x_1))
 fun
 (x_2 :
 Int64 ×
 Option
 (List (UInt8 × UInt8 × List UInt8 × Bool) × List ((UInt8 × UInt8) × Bool) × Int64 × Int64 × Int64)) =>
 oite (decide (Prod.fst x_2 = (4096 : Int64))) (some (false, Prod.snd x_2))
 (obind (Prod.snd x_2)
 fun
 (x_3 :
 List (UInt8 × UInt8 × List UInt8 × Bool) × List ((UInt8 × UInt8) × Bool) × Int64 × Int64 × Int64) =>
 oite
 (decide ((0 : Int) ≤ Int64.toInt (Prod.snd x)) &&
 Nat.blt (Int.toNat (Int64.toInt (Prod.snd x))) (List.length (Prod.fst x_3)))
 (obind (Prod.fst x_3)[Int.toNat (Int64.toInt (Prod.snd x))]?
 fun (x_4 : UInt8 × UInt8 × List UInt8 × Bool) =>
 oite
 (Nat.ble
 (List.length (Prod.fst x_3) +
 List.length
 [(Prod.fst (Prod.fst (Prod.fst x_1)), Prod.fst (Prod.snd (Prod.fst (Prod.fst x_1))),
 Prod.snd (Prod.snd (Prod.fst (Prod.fst x_1))), Prod.snd (Prod.snd (Prod.snd x_4)))])
 (4294967296 : Nat))
 (some
 (true,
 some
 (Prod.fst x_3 ++
 [(Prod.fst (Prod.fst (Prod.fst x_1)), Prod.fst (Prod.snd (Prod.fst (Prod.fst x_1))),
 Prod.snd (Prod.snd (Prod.fst (Prod.fst x_1))), Prod.snd (Prod.snd (Prod.snd x_4)))],
 Prod.fst (Prod.snd x_3), Prod.fst (Prod.snd (Prod.snd x_3)),
 Prod.fst (Prod.snd (Prod.snd (Prod.snd x_3))),
 Prod.snd (Prod.snd (Prod.snd (Prod.snd x_3))))))
 none)
 none))
theorem ok10 (n : Nat) : FunOK Try.prog ⟨10, sig10, F10 n⟩ :=
 fun_ok (hints := ⟨[], []⟩) (fuel := n) (c := Try.f10.body.getD .skip) (rs := Try.f10.results.toList) tt_ok mix (FsOK.cons (ok12 n) (FsOK.cons (ok11 n) (FsOK.nil))) Try.func10 (by kernel_rfl) (by kernel_rfl) rfl (by kernel_rfl) rfl rfl (by kernel_rfl)
-- (*watchfire/net.Net).take
def sig24 : Sig := ⟨(.cons (.one (.ptr (.cons (.row (.cons (.int .u8) (.cons (.int .u8) (.cons (.ro (.cons (.int .u8) .nil)) (.cons .bool .nil))))) (.cons (.map (.agg (.cons (.int .u8) (.cons (.int .u8) .nil))) (.one .bool)) (.cons (.c (.int .i64)) (.cons (.c (.int .i64)) (.cons (.c (.int .i64)) .nil))))))) (.cons (.one (.c (.int .i64))) .nil)), (.cons (.agg (.cons (.int .u8) (.cons (.int .u8) (.cons (.ro (.cons (.int .u8) .nil)) .nil)))) .nil)⟩
def F24 : Nat →
 Option (List (UInt8 × UInt8 × List UInt8 × Bool) × List ((UInt8 × UInt8) × Bool) × Int64 × Int64 × Int64) × Int64 →
 Option
 ((UInt8 × UInt8 × List UInt8) ×
 Option (List (UInt8 × UInt8 × List UInt8 × Bool) × List ((UInt8 × UInt8) × Bool) × Int64 × Int64 × Int64)) := fun (n : Nat)
 (x :
 Option (List (UInt8 × UInt8 × List UInt8 × Bool) × List ((UInt8 × UInt8) × Bool) × Int64 × Int64 × Int64) ×
 Int64) =>
 obind (Prod.fst x)
 fun (x_1 : List (UInt8 × UInt8 × List UInt8 × Bool) × List ((UInt8 × UInt8) × Bool) × Int64 × Int64 × Int64) =>
 oite
 (decide ((0 : Int) ≤ Int64.toInt (Prod.snd x)) &&
 Nat.blt (Int.toNat (Int64.toInt (Prod.snd x))) (List.length (Prod.fst x_1)))
 (obind (Prod.fst x_1)[Int.toNat (Int64.toInt (Prod.snd x))]? fun (x_2 : UInt8 × UInt8 × List UInt8 × Bool) =>
 oite
 (decide ((0 : Int) ≤ Int64.toInt (Prod.snd x)) &&
 Nat.ble (Int.toNat (Int64.toInt (Prod.snd x))) (List.length (Prod.fst x_1)) &&
 true)
 (oite
 (Nat.ble
 ((0 : Nat) +
 List.length
 (List.take (Int.toNat (Int64.toInt (Prod.snd x)) - (0 : Nat)) (List.drop (0 : Nat) (Prod.fst x_1))))
 (4294967296 : Nat))
 (oite
 (decide ((0 : Int) ≤ Int64.toInt (Prod.snd x + (1 : Int64))) &&
 Nat.ble (Int.toNat (Int64.toInt (Prod.snd x + (1 : Int64)))) (List.length (Prod.fst x_1)))
 (oite
 (Nat.ble
 (List.length
 ([] ++
 List.take (Int.toNat (Int64.toInt (Prod.snd x)) - (0 : Nat))
 (List.drop (0 : Nat) (Prod.fst x_1))) +
 List.length
 (List.take (List.length (Prod.fst x_1) - Int.toNat (Int64.toInt (Prod.snd x + (1 : Int64))))
 (List.drop (Int.toNat (Int64.toInt (Prod.snd x + (1 : Int64)))) (Prod.fst x_1))))
 (4294967296 : Nat))
 (some
 ((Prod.fst x_2, Prod.fst (Prod.snd x_2), Prod.fst (Prod.snd (Prod.snd x_2))),
 some
 ([] ++
 List.take (Int.toNat (Int64.toInt (Prod.snd x)) - (0 : Nat))
 (List.drop (0 : Nat) (Prod.fst x_1)) ++
 List.take (List.length (Prod.fst x_1) - Int.toNat (Int64.toInt (Prod.snd x + (1 : Int64))))
 (List.drop (Int.toNat (Int64.toInt (Prod.snd x + (1 : Int64)))) (Prod.fst x_1)),
 Prod.fst (Prod.snd x_1), Prod.fst (Prod.snd (Prod.snd x_1)),
 Prod.fst (Prod.snd (Prod.snd (Prod.snd x_1))), Prod.snd (Prod.snd (Prod.snd (Prod.snd x_1))))))
 none)
 none)
 none)
 none)
 none
theorem ok24 (n : Nat) : FunOK Try.prog ⟨24, sig24, F24 n⟩ :=
 fun_ok (hints := ⟨[], []⟩) (fuel := n) (c := Try.f24.body.getD .skip) (rs := Try.f24.results.toList) tt_ok mix (FsOK.nil) Try.func24 (by kernel_rfl) (by kernel_rfl) rfl (by kernel_rfl) rfl rfl (by kernel_rfl)
-- (*watchfire/net.Net).Drop
def sig16 : Sig := ⟨(.cons (.one (.ptr (.cons (.row (.cons (.int .u8) (.cons (.int .u8) (.cons (.ro (.cons (.int .u8) .nil)) (.cons .bool .nil))))) (.cons (.map (.agg (.cons (.int .u8) (.cons (.int .u8) .nil))) (.one .bool)) (.cons (.c (.int .i64)) (.cons (.c (.int .i64)) (.cons (.c (.int .i64)) .nil))))))) (.cons (.one (.c (.int .i64))) .nil)), (.cons (.one (.c .bool)) .nil)⟩
def F16 : Nat →
 Option (List (UInt8 × UInt8 × List UInt8 × Bool) × List ((UInt8 × UInt8) × Bool) × Int64 × Int64 × Int64) × Int64 →
 Option
 (Bool × Option (List (UInt8 × UInt8 × List UInt8 × Bool) × List ((UInt8 × UInt8) × Bool) × Int64 × Int64 × Int64)) := fun (n : Nat)
 (x :
 Option (List (UInt8 × UInt8 × List UInt8 × Bool) × List ((UInt8 × UInt8) × Bool) × Int64 × Int64 × Int64) ×
 Int64) =>
 obind (F23 n (Prod.fst x, Prod.snd x))
 fun
 (x_1 :
 Bool ×
 Option (List (UInt8 × UInt8 × List UInt8 × Bool) × List ((UInt8 × UInt8) × Bool) × Int64 × Int64 × Int64)) =>
 oite (!Prod.fst x_1) (some (false, Prod.snd x_1))
 (obind (F24 n (Prod.snd x_1, Prod.snd x))
 fun
 (x_2 :
 (UInt8 × UInt8 × List UInt8) ×
 Option
 (List (UInt8 × UInt8 × List UInt8 × Bool) × List ((UInt8 × UInt8) × Bool) × Int64 × Int64 × Int64)) =>
 obind (Prod.snd x_2)
 fun
 (x_3 : List (UInt8 × UInt8 × List UInt8 × Bool) × List ((UInt8 × UInt8) × Bool) × Int64 × Int64 × Int64) =>
 some
 (true,
 some
 (Prod.fst x_3, Prod.fst (Prod.snd x_3), Prod.fst (Prod.snd (Prod.snd x_3)),
 Prod.fst (Prod.snd (Prod.snd (Prod.snd x_3))),
 Prod.snd (Prod.snd (Prod.snd (Prod.snd x_3))) + (1 : Int64))))
theorem ok16 (n : Nat) : FunOK Try.prog ⟨16, sig16, F16 n⟩ :=
 fun_ok (hints := ⟨[], []⟩) (fuel := n) (c := Try.f16.body.getD .skip) (rs := Try.f16.results.toList) tt_ok mix (FsOK.cons (ok23 n) (FsOK.cons (ok24 n) (FsOK.cons (ok21 n) (FsOK.nil)))) Try.func16 (by kernel_rfl) (by kernel_rfl) rfl (by kernel_rfl) rfl rfl (by kernel_rfl)
-- (*watchfire/net.Net).Deliver
def sig14 : Sig := ⟨(.cons (.one (.ptr (.cons (.row (.cons (.int .u8) (.cons (.int .u8) (.cons (.ro (.cons (.int .u8) .nil)) (.cons .bool .nil))))) (.cons (.map (.agg (.cons (.int .u8) (.cons (.int .u8) .nil))) (.one .bool)) (.cons (.c (.int .i64)) (.cons (.c (.int .i64)) (.cons (.c (.int .i64)) .nil))))))) (.cons (.one (.c (.int .i64))) .nil)), (.cons (.agg (.cons (.int .u8) (.cons (.int .u8) (.cons (.ro (.cons (.int .u8) .nil)) .nil)))) (.cons (.one (.c .bool)) .nil))⟩
def F14 : Nat →
 Option (List (UInt8 × UInt8 × List UInt8 × Bool) × List ((UInt8 × UInt8) × Bool) × Int64 × Int64 × Int64) × Int64 →
 Option
 (((UInt8 × UInt8 × List UInt8) × Bool) ×
 Option (List (UInt8 × UInt8 × List UInt8 × Bool) × List ((UInt8 × UInt8) × Bool) × Int64 × Int64 × Int64)) := fun (n : Nat)
 (x :
 Option (List (UInt8 × UInt8 × List UInt8 × Bool) × List ((UInt8 × UInt8) × Bool) × Int64 × Int64 × Int64) ×
 Int64) =>
 obind (F23 n (Prod.fst x, Prod.snd x))
 fun
 (x_1 :
 Bool ×
 Option (List (UInt8 × UInt8 × List UInt8 × Bool) × List ((UInt8 × UInt8) × Bool) × Int64 × Int64 × Int64)) =>
 oite (!Prod.fst x_1) (some ((((0 : UInt8), (0 : UInt8), @List.nil UInt8), false), Prod.snd x_1))
 (obind (F24 n (Prod.snd x_1, Prod.snd x))
 fun
 (x_2 :
 (UInt8 × UInt8 × List UInt8) ×
 Option
 (List (UInt8 × UInt8 × List UInt8 × Bool) × List ((UInt8 × UInt8) × Bool) × Int64 × Int64 × Int64)) =>
 obind (Prod.snd x_2)
 fun
 (x_3 : List (UInt8 × UInt8 × List UInt8 × Bool) × List ((UInt8 × UInt8) × Bool) × Int64 × Int64 × Int64) =>
 obind (F22 n (Prod.fst (Prod.fst x_2), Prod.fst (Prod.snd (Prod.fst x_2))))
 fun (x_4 : (UInt8 × UInt8) × Unit) =>
 oite
 (Option.getD
 (mget (VT.agg (CTs.cons (CT.int IntKind.u8) (CTs.cons (CT.int IntKind.u8) CTs.nil))) (VT.one CT.bool)
 (Prod.fst (Prod.fst x_4), Prod.snd (Prod.fst x_4)) (Prod.fst (Prod.snd x_3)))
 false)
 (some
 ((((0 : UInt8), (0 : UInt8), @List.nil UInt8), false),
 some
 (Prod.fst x_3, Prod.fst (Prod.snd x_3), Prod.fst (Prod.snd (Prod.snd x_3)),
 Prod.fst (Prod.snd (Prod.snd (Prod.snd x_3))),
 Prod.snd (Prod.snd (Prod.snd (Prod.snd x_3))) + (1 : Int64))))
 (some
 (((Prod.fst (Prod.fst x_2), Prod.fst (Prod.snd (Prod.fst x_2)), Prod.snd (Prod.snd (Prod.fst x_2))),
 true),
 some
 (Prod.fst x_3, Prod.fst (Prod.snd x_3), Prod.fst (Prod.snd (Prod.snd x_3)),
 Prod.fst (Prod.snd (Prod.snd (Prod.snd x_3))) + (1 : Int64),
 Prod.snd (Prod.snd (Prod.snd (Prod.snd x_3)))))))
theorem ok14 (n : Nat) : FunOK Try.prog ⟨14, sig14, F14 n⟩ :=
 fun_ok (hints := ⟨[], []⟩) (fuel := n) (c := Try.f14.body.getD .skip) (rs := Try.f14.results.toList) tt_ok mix (FsOK.cons (ok23 n) (FsOK.cons (ok24 n) (FsOK.cons (ok22 n) (FsOK.cons (ok21 n) (FsOK.nil))))) Try.func14 (by kernel_rfl) (by kernel_rfl) rfl (by kernel_rfl) rfl rfl (by kernel_rfl)
-- watchfire/watchfirelaw25.Awake
def sig7 : Sig := ⟨.nil, (.cons (.one (.c .bool)) .nil)⟩
def F7_J15 : Nat →
 Int64 →
 Bool →
 Option (List (UInt8 × UInt8 × List UInt8 × Bool) × List ((UInt8 × UInt8) × Bool) × Int64 × Int64 × Int64) →
 Option (Bool × Unit) := fun (n : Nat) (e : Int64) (ok : Bool)
 (n_ : Option (List (UInt8 × UInt8 × List UInt8 × Bool) × List ((UInt8 × UInt8) × Bool) × Int64 × Int64 × Int64)) =>
 obind (F14 n (n_, (0 : Int64)))
 fun
 (x_3 :
 ((UInt8 × UInt8 × List UInt8) × Bool) ×
 Option (List (UInt8 × UInt8 × List UInt8 × Bool) × List ((UInt8 × UInt8) × Bool) × Int64 × Int64 × Int64)) =>
 oite (decide (e = (0 : Int64)))
 (oite ok
 (oite (Prod.snd (Prod.fst x_3))
 (oite (Prod.snd (Prod.snd (Prod.fst (Prod.fst x_3))) == [(120 : UInt8)])
 (obind (F11 n (Prod.snd x_3))
 fun
 (x_4 :
 Int64 ×
 Option
 (List (UInt8 × UInt8 × List UInt8 × Bool) ×
 List ((UInt8 × UInt8) × Bool) × Int64 × Int64 × Int64)) =>
 some (decide (Prod.fst x_4 = (0 : Int64)), ()))
 (some (false, ())))
 (some (false, ())))
 (some (false, ())))
 (some (false, ()))
def F7 : Nat → Unit → Option (Bool × Unit) := fun (n : Nat) (x : Unit) =>
 obind (F8 n ())
 fun
 (x_1 :
 Option (List (UInt8 × UInt8 × List UInt8 × Bool) × List ((UInt8 × UInt8) × Bool) × Int64 × Int64 × Int64) ×
 Unit) =>
 obind (F9 n (Prod.fst x_1, (1 : UInt8), (0 : UInt8), [(120 : UInt8)]))
 fun
 (x_2 :
 Int64 ×
 Option
 (List (UInt8 × UInt8 × List UInt8 × Bool) × List ((UInt8 × UInt8) × Bool) × Int64 × Int64 × Int64)) =>
 ojoinA (15 : Nat)
 [PT.int IntKind.i64, PT.bool,
 PT.opt
 (OTs.cons
 (OT.row
 (CTs.cons (CT.int IntKind.u8)
 (CTs.cons (CT.int IntKind.u8)
 (CTs.cons (CT.ro (CTs.cons (CT.int IntKind.u8) CTs.nil)) (CTs.cons CT.bool CTs.nil)))))
 (OTs.cons
 (OT.map (VT.agg (CTs.cons (CT.int IntKind.u8) (CTs.cons (CT.int IntKind.u8) CTs.nil))) (VT.one CT.bool))
 (OTs.cons (OT.c (CT.int IntKind.i64))
 (OTs.cons (OT.c (CT.int IntKind.i64)) (OTs.cons (OT.c (CT.int IntKind.i64)) OTs.nil)))))]
 (fun
 (J :
 Arr
 [PT.int IntKind.i64, PT.bool,
 PT.opt
 (OTs.cons
 (OT.row
 (CTs.cons (CT.int IntKind.u8)
 (CTs.cons (CT.int IntKind.u8)
 (CTs.cons (CT.ro (CTs.cons (CT.int IntKind.u8) CTs.nil)) (CTs.cons CT.bool CTs.nil)))))
 (OTs.cons
 (OT.map (VT.agg (CTs.cons (CT.int IntKind.u8) (CTs.cons (CT.int IntKind.u8) CTs.nil)))
 (VT.one CT.bool))
 (OTs.cons (OT.c (CT.int IntKind.i64))
 (OTs.cons (OT.c (CT.int IntKind.i64)) (OTs.cons (OT.c (CT.int IntKind.i64)) OTs.nil)))))]
 (Option (Bool × Unit))) =>
 obind (F10 n (Prod.snd x_2, (0 : Int64)))
 fun
 (x_3 :
 Bool ×
 Option
 (List (UInt8 × UInt8 × List UInt8 × Bool) ×
 List ((UInt8 × UInt8) × Bool) × Int64 × Int64 × Int64)) =>
 oite (Prod.fst x_3)
 (obind (F16 n (Prod.snd x_3, (0 : Int64)))
 fun
 (x_4 :
 Bool ×
 Option
 (List (UInt8 × UInt8 × List UInt8 × Bool) ×
 List ((UInt8 × UInt8) × Bool) × Int64 × Int64 × Int64)) =>
 J (Prod.fst x_2) (Prod.fst x_4) (Prod.snd x_4))
 (J (Prod.fst x_2) false (Prod.snd x_3)))
 (F7_J15 n)
theorem ok7 (n : Nat) : FunOK Try.prog ⟨7, sig7, F7 n⟩ :=
 fun_ok (hints := ⟨[(15, ⟨[(1, .one (.own 0)), (2, .one (.int .i64)), (3, .one (.bool))], [(0, .fold (.cons (.row (.cons (.int .u8) (.cons (.int .u8) (.cons (.ro (.cons (.int .u8) .nil)) (.cons .bool .nil))))) (.cons (.map (.agg (.cons (.int .u8) (.cons (.int .u8) .nil))) (.one .bool)) (.cons (.c (.int .i64)) (.cons (.c (.int .i64)) (.cons (.c (.int .i64)) .nil))))))], 1⟩)], []⟩) (fuel := n) (c := Try.f7.body.getD .skip) (rs := Try.f7.results.toList) tt_ok mix (FsOK.cons (ok8 n) (FsOK.cons (ok9 n) (FsOK.cons (ok10 n) (FsOK.cons (ok16 n) (FsOK.cons (ok14 n) (FsOK.cons (ok11 n) (FsOK.nil))))))) Try.func7 (by kernel_rfl) (by kernel_rfl) rfl (by kernel_rfl) rfl rfl (by kernel_rfl)
-- (*watchfire/net.Net).Spoil
def sig13 : Sig := ⟨(.cons (.one (.ptr (.cons (.row (.cons (.int .u8) (.cons (.int .u8) (.cons (.ro (.cons (.int .u8) .nil)) (.cons .bool .nil))))) (.cons (.map (.agg (.cons (.int .u8) (.cons (.int .u8) .nil))) (.one .bool)) (.cons (.c (.int .i64)) (.cons (.c (.int .i64)) (.cons (.c (.int .i64)) .nil))))))) (.cons (.one (.c (.int .i64))) (.cons (.one (.c (.int .i64))) .nil))), (.cons (.one (.c .bool)) .nil)⟩
def F13 : Nat →
 Option (List (UInt8 × UInt8 × List UInt8 × Bool) × List ((UInt8 × UInt8) × Bool) × Int64 × Int64 × Int64) ×
 Int64 × Int64 →
 Option
 (Bool × Option (List (UInt8 × UInt8 × List UInt8 × Bool) × List ((UInt8 × UInt8) × Bool) × Int64 × Int64 × Int64)) := fun (n : Nat)
 (x :
 Option (List (UInt8 × UInt8 × List UInt8 × Bool) × List ((UInt8 × UInt8) × Bool) × Int64 × Int64 × Int64) ×
 Int64 × Int64) =>
 obind (F12 n (Prod.fst x, Prod.fst (Prod.snd x)))
 fun
 (x_1 :
 ((UInt8 × UInt8 × List UInt8) × Bool) ×
 Option (List (UInt8 × UInt8 × List UInt8 × Bool) × List ((UInt8 × UInt8) × Bool) × Int64 × Int64 × Int64)) =>
 oite (!Prod.snd (Prod.fst x_1)) (some (false, Prod.snd x_1))
 (obind (Prod.snd x_1)
 fun (x_2 : List (UInt8 × UInt8 × List UInt8 × Bool) × List ((UInt8 × UInt8) × Bool) × Int64 × Int64 × Int64) =>
 oite
 (decide ((0 : Int) ≤ Int64.toInt (Prod.fst (Prod.snd x))) &&
 Nat.blt (Int.toNat (Int64.toInt (Prod.fst (Prod.snd x)))) (List.length (Prod.fst x_2)))
 (obind (Prod.fst x_2)[Int.toNat (Int64.toInt (Prod.fst (Prod.snd x)))]?
 fun (x_3 : UInt8 × UInt8 × List UInt8 × Bool) =>
 oite (Prod.snd (Prod.snd (Prod.snd x_3)))
 (some
 (false,
 some
 (Prod.fst x_2, Prod.fst (Prod.snd x_2), Prod.fst (Prod.snd (Prod.snd x_2)),
 Prod.fst (Prod.snd (Prod.snd (Prod.snd x_2))), Prod.snd (Prod.snd (Prod.snd (Prod.snd x_2))))))
 (oite (decide (Prod.snd (Prod.snd x) < (0 : Int64)))
 (some
 (false,
 some
 (Prod.fst x_2, Prod.fst (Prod.snd x_2), Prod.fst (Prod.snd (Prod.snd x_2)),
 Prod.fst (Prod.snd (Prod.snd (Prod.snd x_2))), Prod.snd (Prod.snd (Prod.snd (Prod.snd x_2))))))
 (oite
 (decide
 ((8 : Int64) * Int64.ofInt ↑(List.length (Prod.snd (Prod.snd (Prod.fst (Prod.fst x_1))))) ≤
 Prod.snd (Prod.snd x)))
 (some
 (false,
 some
 (Prod.fst x_2, Prod.fst (Prod.snd x_2), Prod.fst (Prod.snd (Prod.snd x_2)),
 Prod.fst (Prod.snd (Prod.snd (Prod.snd x_2))),
 Prod.snd (Prod.snd (Prod.snd (Prod.snd x_2))))))
 (oite
 (decide ((0 : Int) ≤ Int64.toInt (Prod.snd (Prod.snd x) / (8 : Int64))) &&
 Nat.blt (Int.toNat (Int64.toInt (Prod.snd (Prod.snd x) / (8 : Int64))))
 (List.length (Prod.snd (Prod.snd (Prod.fst (Prod.fst x_1))))))
 (obind
 (Prod.snd
 (Prod.snd
 (Prod.fst (Prod.fst x_1))))[Int.toNat (Int64.toInt (Prod.snd (Prod.snd x) / (8 : Int64)))]?
 fun (x_4 : UInt8) =>
 oite (decide ((0 : Int) ≤ Int64.toInt (Prod.snd (Prod.snd x) % (8 : Int64))))
 (oite
 (decide ((0 : Int) ≤ Int64.toInt (Prod.snd (Prod.snd x) / (8 : Int64))) &&
 Nat.blt (Int.toNat (Int64.toInt (Prod.snd (Prod.snd x) / (8 : Int64))))
 (List.length (Prod.snd (Prod.snd (Prod.fst (Prod.fst x_1))))))
 (obind
 (Prod.snd
 (Prod.snd
 (Prod.fst
 (Prod.fst x_1))))[Int.toNat (Int64.toInt (Prod.snd (Prod.snd x) / (8 : Int64)))]?
 fun (x_5 : UInt8) =>
 oite
 (decide ((0 : Int) ≤ Int64.toInt (Prod.fst (Prod.snd x))) &&
 Nat.blt (Int.toNat (Int64.toInt (Prod.fst (Prod.snd x)))) (List.length (Prod.fst x_2)))
 (obind (Prod.fst x_2)[Int.toNat (Int64.toInt (Prod.fst (Prod.snd x)))]?
 fun (x_6 : UInt8 × UInt8 × List UInt8 × Bool) =>
 some
 (true,
 some
 (List.set (Prod.fst x_2) (Int.toNat (Int64.toInt (Prod.fst (Prod.snd x))))
 (Prod.fst (Prod.fst (Prod.fst x_1)),
 Prod.fst (Prod.snd (Prod.fst (Prod.fst x_1))),
 List.set (Prod.snd (Prod.snd (Prod.fst (Prod.fst x_1))))
 (Int.toNat (Int64.toInt (Prod.snd (Prod.snd x) / (8 : Int64))))
 (x_4 ^^^
 IK.shl IntKind.u8 (1 : UInt8)
 (Int64.toInt (Prod.snd (Prod.snd x) % (8 : Int64)))),
 true),
 Prod.fst (Prod.snd x_2), Prod.fst (Prod.snd (Prod.snd x_2)),
 Prod.fst (Prod.snd (Prod.snd (Prod.snd x_2))),
 Prod.snd (Prod.snd (Prod.snd (Prod.snd x_2))))))
 none)
 none)
 none)
 none))))
 none)
theorem ok13 (n : Nat) : FunOK Try.prog ⟨13, sig13, F13 n⟩ :=
 fun_ok (hints := ⟨[], []⟩) (fuel := n) (c := Try.f13.body.getD .skip) (rs := Try.f13.results.toList) tt_ok mix (FsOK.cons (ok12 n) (FsOK.nil)) Try.func13 (by kernel_rfl) (by kernel_rfl) rfl (by kernel_rfl) rfl rfl (by kernel_rfl)
-- (*watchfire/watchfirelaw25.model).take
def sig15 : Sig := ⟨(.cons (.one (.ptrA (.cons (.row (.cons (.int .u8) (.cons (.int .u8) (.cons .str (.cons .bool .nil))))) .nil) .bool 1024 (.cons (.c (.int .i64)) (.cons (.c (.int .i64)) (.cons (.c (.int .i64)) .nil))))) (.cons (.one (.c (.int .i64))) .nil)), (.cons (.agg (.cons (.int .u8) (.cons (.int .u8) (.cons .str (.cons .bool .nil))))) .nil)⟩
def F15 : Nat →
 Option (List (UInt8 × UInt8 × List UInt8 × Bool) × List Bool × Int64 × Int64 × Int64) × Int64 →
 Option
 ((UInt8 × UInt8 × List UInt8 × Bool) ×
 Option (List (UInt8 × UInt8 × List UInt8 × Bool) × List Bool × Int64 × Int64 × Int64)) := fun (n : Nat) (x : Option (List (UInt8 × UInt8 × List UInt8 × Bool) × List Bool × Int64 × Int64 × Int64) × Int64) =>
 obind (Prod.fst x) fun (x_1 : List (UInt8 × UInt8 × List UInt8 × Bool) × List Bool × Int64 × Int64 × Int64) =>
 oite
 (decide ((0 : Int) ≤ Int64.toInt (Prod.snd x)) &&
 Nat.blt (Int.toNat (Int64.toInt (Prod.snd x))) (List.length (Prod.fst x_1)))
 (obind (Prod.fst x_1)[Int.toNat (Int64.toInt (Prod.snd x))]? fun (x_2 : UInt8 × UInt8 × List UInt8 × Bool) =>
 oite
 (decide ((0 : Int) ≤ Int64.toInt (Prod.snd x)) &&
 Nat.ble (Int.toNat (Int64.toInt (Prod.snd x))) (List.length (Prod.fst x_1)) &&
 true)
 (oite
 (Nat.ble
 ((0 : Nat) +
 List.length
 (List.take (Int.toNat (Int64.toInt (Prod.snd x)) - (0 : Nat)) (List.drop (0 : Nat) (Prod.fst x_1))))
 (4294967296 : Nat))
 (oite
 (decide ((0 : Int) ≤ Int64.toInt (Prod.snd x + (1 : Int64))) &&
 Nat.ble (Int.toNat (Int64.toInt (Prod.snd x + (1 : Int64)))) (List.length (Prod.fst x_1)))
 (oite
 (Nat.ble
 (List.length
 ([] ++
 List.take (Int.toNat (Int64.toInt (Prod.snd x)) - (0 : Nat))
 (List.drop (0 : Nat) (Prod.fst x_1))) +
 List.length
 (List.take (List.length (Prod.fst x_1) - Int.toNat (Int64.toInt (Prod.snd x + (1 : Int64))))
 (List.drop (Int.toNat (Int64.toInt (Prod.snd x + (1 : Int64)))) (Prod.fst x_1))))
 (4294967296 : Nat))
 (some
 ((Prod.fst x_2, Prod.fst (Prod.snd x_2), Prod.fst (Prod.snd (Prod.snd x_2)),
 Prod.snd (Prod.snd (Prod.snd x_2))),
 some
 ([] ++
 List.take (Int.toNat (Int64.toInt (Prod.snd x)) - (0 : Nat))
 (List.drop (0 : Nat) (Prod.fst x_1)) ++
 List.take (List.length (Prod.fst x_1) - Int.toNat (Int64.toInt (Prod.snd x + (1 : Int64))))
 (List.drop (Int.toNat (Int64.toInt (Prod.snd x + (1 : Int64)))) (Prod.fst x_1)),
 Prod.fst (Prod.snd x_1), Prod.fst (Prod.snd (Prod.snd x_1)),
 Prod.fst (Prod.snd (Prod.snd (Prod.snd x_1))), Prod.snd (Prod.snd (Prod.snd (Prod.snd x_1))))))
 none)
 none)
 none)
 none)
 none
theorem ok15 (n : Nat) : FunOK Try.prog ⟨15, sig15, F15 n⟩ :=
 fun_ok (hints := ⟨[], []⟩) (fuel := n) (c := Try.f15.body.getD .skip) (rs := Try.f15.results.toList) tt_ok mix (FsOK.nil) Try.func15 (by kernel_rfl) (by kernel_rfl) rfl (by kernel_rfl) rfl rfl (by kernel_rfl)
-- (*watchfire/net.Net).Cut
def sig17 : Sig := ⟨(.cons (.one (.ptr (.cons (.row (.cons (.int .u8) (.cons (.int .u8) (.cons (.ro (.cons (.int .u8) .nil)) (.cons .bool .nil))))) (.cons (.map (.agg (.cons (.int .u8) (.cons (.int .u8) .nil))) (.one .bool)) (.cons (.c (.int .i64)) (.cons (.c (.int .i64)) (.cons (.c (.int .i64)) .nil))))))) (.cons (.one (.c (.int .u8))) (.cons (.one (.c (.int .u8))) (.cons (.one (.c .bool)) .nil)))), (.cons (.one (.c (.int .i64))) .nil)⟩
def F17 : Nat →
 Option (List (UInt8 × UInt8 × List UInt8 × Bool) × List ((UInt8 × UInt8) × Bool) × Int64 × Int64 × Int64) ×
 UInt8 × UInt8 × Bool →
 Option
 (Int64 ×
 Option (List (UInt8 × UInt8 × List UInt8 × Bool) × List ((UInt8 × UInt8) × Bool) × Int64 × Int64 × Int64)) := fun (n : Nat)
 (x :
 Option (List (UInt8 × UInt8 × List UInt8 × Bool) × List ((UInt8 × UInt8) × Bool) × Int64 × Int64 × Int64) ×
 UInt8 × UInt8 × Bool) =>
 oelim (Prod.fst x) (some ((1 : Int64), none))
 fun (x_1 : List (UInt8 × UInt8 × List UInt8 × Bool) × List ((UInt8 × UInt8) × Bool) × Int64 × Int64 × Int64) =>
 oite (decide ((32 : UInt8) ≤ Prod.fst (Prod.snd x)))
 (some
 ((20 : Int64),
 some
 (Prod.fst x_1, Prod.fst (Prod.snd x_1), Prod.fst (Prod.snd (Prod.snd x_1)),
 Prod.fst (Prod.snd (Prod.snd (Prod.snd x_1))), Prod.snd (Prod.snd (Prod.snd (Prod.snd x_1))))))
 (oite (decide ((32 : UInt8) ≤ Prod.fst (Prod.snd (Prod.snd x))))
 (some
 ((20 : Int64),
 some
 (Prod.fst x_1, Prod.fst (Prod.snd x_1), Prod.fst (Prod.snd (Prod.snd x_1)),
 Prod.fst (Prod.snd (Prod.snd (Prod.snd x_1))), Prod.snd (Prod.snd (Prod.snd (Prod.snd x_1))))))
 (oite (decide (Prod.fst (Prod.snd x) = Prod.fst (Prod.snd (Prod.snd x))))
 (some
 ((20 : Int64),
 some
 (Prod.fst x_1, Prod.fst (Prod.snd x_1), Prod.fst (Prod.snd (Prod.snd x_1)),
 Prod.fst (Prod.snd (Prod.snd (Prod.snd x_1))), Prod.snd (Prod.snd (Prod.snd (Prod.snd x_1))))))
 (oite (Prod.snd (Prod.snd (Prod.snd x)))
 (obind (F22 n (Prod.fst (Prod.snd x), Prod.fst (Prod.snd (Prod.snd x))))
 fun (x_2 : (UInt8 × UInt8) × Unit) =>
 some
 ((0 : Int64),
 some
 (Prod.fst x_1,
 mput (VT.agg (CTs.cons (CT.int IntKind.u8) (CTs.cons (CT.int IntKind.u8) CTs.nil)))
 (VT.one CT.bool) (Prod.fst (Prod.fst x_2), Prod.snd (Prod.fst x_2)) true
 (Prod.fst (Prod.snd x_1)),
 Prod.fst (Prod.snd (Prod.snd x_1)), Prod.fst (Prod.snd (Prod.snd (Prod.snd x_1))),
 Prod.snd (Prod.snd (Prod.snd (Prod.snd x_1))))))
 (obind (F22 n (Prod.fst (Prod.snd x), Prod.fst (Prod.snd (Prod.snd x))))
 fun (x_2 : (UInt8 × UInt8) × Unit) =>
 some
 ((0 : Int64),
 some
 (Prod.fst x_1,
 mdel (VT.agg (CTs.cons (CT.int IntKind.u8) (CTs.cons (CT.int IntKind.u8) CTs.nil)))
 (VT.one CT.bool) (Prod.fst (Prod.fst x_2), Prod.snd (Prod.fst x_2)) (Prod.fst (Prod.snd x_1)),
 Prod.fst (Prod.snd (Prod.snd x_1)), Prod.fst (Prod.snd (Prod.snd (Prod.snd x_1))),
 Prod.snd (Prod.snd (Prod.snd (Prod.snd x_1)))))))))
theorem ok17 (n : Nat) : FunOK Try.prog ⟨17, sig17, F17 n⟩ :=
 fun_ok (hints := ⟨[], []⟩) (fuel := n) (c := Try.f17.body.getD .skip) (rs := Try.f17.results.toList) tt_ok mix (FsOK.cons (ok22 n) (FsOK.nil)) Try.func17 (by kernel_rfl) (by kernel_rfl) rfl (by kernel_rfl) rfl rfl (by kernel_rfl)
-- (*watchfire/net.Net).IsCut
def sig18 : Sig := ⟨(.cons (.one (.ptr (.cons (.row (.cons (.int .u8) (.cons (.int .u8) (.cons (.ro (.cons (.int .u8) .nil)) (.cons .bool .nil))))) (.cons (.map (.agg (.cons (.int .u8) (.cons (.int .u8) .nil))) (.one .bool)) (.cons (.c (.int .i64)) (.cons (.c (.int .i64)) (.cons (.c (.int .i64)) .nil))))))) (.cons (.one (.c (.int .u8))) (.cons (.one (.c (.int .u8))) .nil))), (.cons (.one (.c .bool)) .nil)⟩
def F18 : Nat →
 Option (List (UInt8 × UInt8 × List UInt8 × Bool) × List ((UInt8 × UInt8) × Bool) × Int64 × Int64 × Int64) ×
 UInt8 × UInt8 →
 Option
 (Bool × Option (List (UInt8 × UInt8 × List UInt8 × Bool) × List ((UInt8 × UInt8) × Bool) × Int64 × Int64 × Int64)) := fun (n : Nat)
 (x :
 Option (List (UInt8 × UInt8 × List UInt8 × Bool) × List ((UInt8 × UInt8) × Bool) × Int64 × Int64 × Int64) ×
 UInt8 × UInt8) =>
 oelim (Prod.fst x) (some (false, none))
 fun (x_1 : List (UInt8 × UInt8 × List UInt8 × Bool) × List ((UInt8 × UInt8) × Bool) × Int64 × Int64 × Int64) =>
 obind (F22 n (Prod.fst (Prod.snd x), Prod.snd (Prod.snd x))) fun (x_2 : (UInt8 × UInt8) × Unit) =>
 some
 (Option.getD
 (mget (VT.agg (CTs.cons (CT.int IntKind.u8) (CTs.cons (CT.int IntKind.u8) CTs.nil))) (VT.one CT.bool)
 (Prod.fst (Prod.fst x_2), Prod.snd (Prod.fst x_2)) (Prod.fst (Prod.snd x_1)))
 false,
 some
 (Prod.fst x_1, Prod.fst (Prod.snd x_1), Prod.fst (Prod.snd (Prod.snd x_1)),
 Prod.fst (Prod.snd (Prod.snd (Prod.snd x_1))), Prod.snd (Prod.snd (Prod.snd (Prod.snd x_1)))))
theorem ok18 (n : Nat) : FunOK Try.prog ⟨18, sig18, F18 n⟩ :=
 fun_ok (hints := ⟨[], []⟩) (fuel := n) (c := Try.f18.body.getD .skip) (rs := Try.f18.results.toList) tt_ok mix (FsOK.cons (ok22 n) (FsOK.nil)) Try.func18 (by kernel_rfl) (by kernel_rfl) rfl (by kernel_rfl) rfl rfl (by kernel_rfl)
-- (*watchfire/net.Net).Heal
def sig19 : Sig := ⟨(.cons (.one (.ptr (.cons (.row (.cons (.int .u8) (.cons (.int .u8) (.cons (.ro (.cons (.int .u8) .nil)) (.cons .bool .nil))))) (.cons (.map (.agg (.cons (.int .u8) (.cons (.int .u8) .nil))) (.one .bool)) (.cons (.c (.int .i64)) (.cons (.c (.int .i64)) (.cons (.c (.int .i64)) .nil))))))) .nil), .nil⟩
def F19 : Nat →
 Option (List (UInt8 × UInt8 × List UInt8 × Bool) × List ((UInt8 × UInt8) × Bool) × Int64 × Int64 × Int64) →
 Option
 (Unit ×
 Option (List (UInt8 × UInt8 × List UInt8 × Bool) × List ((UInt8 × UInt8) × Bool) × Int64 × Int64 × Int64)) := fun (n : Nat)
 (x : Option (List (UInt8 × UInt8 × List UInt8 × Bool) × List ((UInt8 × UInt8) × Bool) × Int64 × Int64 × Int64)) =>
 oelim x (some ((), none))
 fun (x_1 : List (UInt8 × UInt8 × List UInt8 × Bool) × List ((UInt8 × UInt8) × Bool) × Int64 × Int64 × Int64) =>
 some
 ((),
 some
 (Prod.fst x_1, @List.nil ((UInt8 × UInt8) × Bool), Prod.fst (Prod.snd (Prod.snd x_1)),
 Prod.fst (Prod.snd (Prod.snd (Prod.snd x_1))), Prod.snd (Prod.snd (Prod.snd (Prod.snd x_1)))))
theorem ok19 (n : Nat) : FunOK Try.prog ⟨19, sig19, F19 n⟩ :=
 fun_ok (hints := ⟨[], []⟩) (fuel := n) (c := Try.f19.body.getD .skip) (rs := Try.f19.results.toList) tt_ok mix (FsOK.nil) Try.func19 (by kernel_rfl) (by kernel_rfl) rfl (by kernel_rfl) rfl rfl (by kernel_rfl)
-- (*sync/atomic.Int64).Load
def sig25 : Sig := ⟨(.cons (.oagg .nil) .nil), (.cons (.one (.c (.int .i64))) .nil)⟩
def F25 (n : Nat) : sig25.In → Option sig25.Out := fun _ => none
theorem ok25 (n : Nat) : FunOK Try.prog ⟨25, sig25, F25 n⟩ := ⟨atom25, _, Try.func25, by kernel_rfl, by kernel_rfl⟩
-- (*watchfire/net.Net).Counts
def sig20 : Sig := ⟨(.cons (.one (.ptr (.cons (.row (.cons (.int .u8) (.cons (.int .u8) (.cons (.ro (.cons (.int .u8) .nil)) (.cons .bool .nil))))) (.cons (.map (.agg (.cons (.int .u8) (.cons (.int .u8) .nil))) (.one .bool)) (.cons (.c (.int .i64)) (.cons (.c (.int .i64)) (.cons (.c (.int .i64)) .nil))))))) .nil), (.cons (.one (.c (.int .i64))) (.cons (.one (.c (.int .i64))) (.cons (.one (.c (.int .i64))) .nil)))⟩
def F20 : Nat →
 Option (List (UInt8 × UInt8 × List UInt8 × Bool) × List ((UInt8 × UInt8) × Bool) × Int64 × Int64 × Int64) →
 Option
 ((Int64 × Int64 × Int64) ×
 Option (List (UInt8 × UInt8 × List UInt8 × Bool) × List ((UInt8 × UInt8) × Bool) × Int64 × Int64 × Int64)) := fun (n : Nat)
 (x : Option (List (UInt8 × UInt8 × List UInt8 × Bool) × List ((UInt8 × UInt8) × Bool) × Int64 × Int64 × Int64)) =>
 oelim x (some (((0 : Int64), (0 : Int64), (0 : Int64)), none))
 fun (x_1 : List (UInt8 × UInt8 × List UInt8 × Bool) × List ((UInt8 × UInt8) × Bool) × Int64 × Int64 × Int64) =>
 some
 ((Prod.fst (Prod.snd (Prod.snd x_1)), Prod.fst (Prod.snd (Prod.snd (Prod.snd x_1))),
 Prod.snd (Prod.snd (Prod.snd (Prod.snd x_1)))),
 some
 (Prod.fst x_1, Prod.fst (Prod.snd x_1), Prod.fst (Prod.snd (Prod.snd x_1)),
 Prod.fst (Prod.snd (Prod.snd (Prod.snd x_1))), Prod.snd (Prod.snd (Prod.snd (Prod.snd x_1)))))
theorem ok20 (n : Nat) : FunOK Try.prog ⟨20, sig20, F20 n⟩ :=
 fun_ok (hints := ⟨[], []⟩) (fuel := n) (c := Try.f20.body.getD .skip) (rs := Try.f20.results.toList) tt_ok mix (FsOK.cons (ok25 n) (FsOK.nil)) Try.func20 (by kernel_rfl) (by kernel_rfl) rfl (by kernel_rfl) rfl rfl (by kernel_rfl)
end Go.Proofs.Ytkpolfffcdocnaa
