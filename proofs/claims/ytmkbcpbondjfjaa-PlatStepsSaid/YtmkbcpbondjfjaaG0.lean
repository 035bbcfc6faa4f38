/- The tables that Dec reads of the program, and that they are the program's. Conditions: none. -/
import Derived.Test.YtmkbcpbondjfjaaProg
import Derived.Test.YtmkbcpbondjfjaaDecH
import Derived.KernelRfl
namespace Go.Proofs.Ytmkbcpbondjfjaa.G
open Go.Dec
set_option linter.unusedVariables false
def ti3 : TI := ⟨.int .i64, 1, 8, [(Value.int .i64 0)]⟩
theorem tiok3 : TIok Try.prog 3 ti3 := ⟨Try.underlying3, by kernel_rfl, by kernel_rfl⟩
def ti4 : TI := ⟨.bool, 1, 1, [(Value.bool false)]⟩
theorem tiok4 : TIok Try.prog 4 ti4 := ⟨Try.underlying4, by kernel_rfl, by kernel_rfl⟩
def ti5 : TI := ⟨.int .u8, 1, 1, [(Value.int .u8 0)]⟩
theorem tiok5 : TIok Try.prog 5 ti5 := ⟨Try.underlying5, by kernel_rfl, by kernel_rfl⟩
def ti23 : TI := ⟨.struct #[⟨ "Segments", 3, 0, false, "", "", 0⟩, ⟨ "Blocks", 3, 1, false, "", "", 8⟩], 2, 16, [(Value.int .i64 0), (Value.int .i64 0)]⟩
theorem tiok23 : TIok Try.prog 23 ti23 := ⟨Try.underlying23, by kernel_rfl, by kernel_rfl⟩
def ti25 : TI := ⟨.int .i64, 1, 8, [(Value.int .i64 0)]⟩
theorem tiok25 : TIok Try.prog 25 ti25 := ⟨Try.underlying25, by kernel_rfl, by kernel_rfl⟩
def ti26 : TI := ⟨.tuple #[3, 25], 1, 0, [(Value.tuple #[(Value.int .i64 0), (Value.int .i64 0)])]⟩
theorem tiok26 : TIok Try.prog 26 ti26 := ⟨Try.underlying26, by kernel_rfl, by kernel_rfl⟩
def ti30 : TI := ⟨.complex .f64, 1, 16, [(Value.complex .f64 0 0)]⟩
theorem tiok30 : TIok Try.prog 30 ti30 := ⟨Try.underlying30, by kernel_rfl, by kernel_rfl⟩
def ti31 : TI := ⟨.float .f64, 1, 8, [(Value.float .f64 0)]⟩
theorem tiok31 : TIok Try.prog 31 ti31 := ⟨Try.underlying31, by kernel_rfl, by kernel_rfl⟩
def ti38 : TI := ⟨.tuple #[3, 3, 25], 1, 0, [(Value.tuple #[(Value.int .i64 0), (Value.int .i64 0), (Value.int .i64 0)])]⟩
theorem tiok38 : TIok Try.prog 38 ti38 := ⟨Try.underlying38, by kernel_rfl, by kernel_rfl⟩
abbrev ty_int : Nat := 3
abbrev ty_bool : Nat := 4
abbrev ty_uint8 : Nat := 5
abbrev ty_api_Plat : Nat := 23
abbrev ty_api_Errno : Nat := 25
abbrev ty_int_api_Errno : Nat := 26
abbrev ty_complex128 : Nat := 30
abbrev ty_float64 : Nat := 31
abbrev ty_int_int_api_Errno : Nat := 38
def tb : List (Option TI) := [none, none, none, some ti3, some ti4, some ti5, none, none, none, none, none, none, none, none, none, none, none, none, none, none, none, none, none, some ti23, none, some ti25, some ti26, none, none, none, some ti30, some ti31, none, none, none, none, none, none, some ti38]
theorem tbok : TabOk Try.prog 0 tb := (And.intro tiok3 (And.intro tiok4 (And.intro tiok5 (And.intro tiok23 (And.intro tiok25 (And.intro tiok26 (And.intro tiok30 (And.intro tiok31 (And.intro tiok38 trivial)))))))))
def fns : List Nat := [6, 7, 8, 9, 10, 11, 12, 13, 14, 15, 16, 17, 18]
theorem fnsok : FnsOk Try.prog fns := (And.intro ⟨Try.f6, Try.func6, by kernel_rfl, by kernel_rfl⟩ (And.intro ⟨Try.f7, Try.func7, by kernel_rfl, by kernel_rfl⟩ (And.intro ⟨Try.f8, Try.func8, by kernel_rfl, by kernel_rfl⟩ (And.intro ⟨Try.f9, Try.func9, by kernel_rfl, by kernel_rfl⟩ (And.intro ⟨Try.f10, Try.func10, by kernel_rfl, by kernel_rfl⟩ (And.intro ⟨Try.f11, Try.func11, by kernel_rfl, by kernel_rfl⟩ (And.intro ⟨Try.f12, Try.func12, by kernel_rfl, by kernel_rfl⟩ (And.intro ⟨Try.f13, Try.func13, by kernel_rfl, by kernel_rfl⟩ (And.intro ⟨Try.f14, Try.func14, by kernel_rfl, by kernel_rfl⟩ (And.intro ⟨Try.f15, Try.func15, by kernel_rfl, by kernel_rfl⟩ (And.intro ⟨Try.f16, Try.func16, by kernel_rfl, by kernel_rfl⟩ (And.intro ⟨Try.f17, Try.func17, by kernel_rfl, by kernel_rfl⟩ (And.intro ⟨Try.f18, Try.func18, by kernel_rfl, by kernel_rfl⟩ trivial)))))))))))))
noncomputable def cx : Cx := { P := Try.prog, tb := tb, fns := fns }
theorem cxok : CxOk cx := { tab := tbok, fn := fnsOk_use fnsok, mixed := by kernel_rfl }
end Go.Proofs.Ytmkbcpbondjfjaa.G
