/- The tables that Dec reads of the program, and that they are the program's. Conditions: none. -/
import Derived.Test.YtikclgliegfocaaProg
import Derived.Test.YtikclgliegfocaaDecH
import Derived.KernelRfl
namespace Go.Proofs.Ytikclgliegfocaa.G
open Go.Dec
set_option linter.unusedVariables false
def ti3 : TI := ⟨.int .i64, 1, 8, [(Value.int .i64 0)]⟩
theorem tiok3 : TIok Try.prog 3 ti3 := ⟨Try.underlying3, by kernel_rfl, by kernel_rfl⟩
def ti4 : TI := ⟨.bool, 1, 1, [(Value.bool false)]⟩
theorem tiok4 : TIok Try.prog 4 ti4 := ⟨Try.underlying4, by kernel_rfl, by kernel_rfl⟩
def ti5 : TI := ⟨.int .u8, 1, 1, [(Value.int .u8 0)]⟩
theorem tiok5 : TIok Try.prog 5 ti5 := ⟨Try.underlying5, by kernel_rfl, by kernel_rfl⟩
def ti9 : TI := ⟨.string, 1, 16, [(Value.string ⟨#[]⟩)]⟩
theorem tiok9 : TIok Try.prog 9 ti9 := ⟨Try.underlying9, by kernel_rfl, by kernel_rfl⟩
def ti22 : TI := ⟨.int .u32, 1, 4, [(Value.int .u32 0)]⟩
theorem tiok22 : TIok Try.prog 22 ti22 := ⟨Try.underlying22, by kernel_rfl, by kernel_rfl⟩
def ti23 : TI := ⟨.slice 5, 1, 24, [(Value.slice none 0 0)]⟩
theorem tiok23 : TIok Try.prog 23 ti23 := ⟨Try.underlying23, by kernel_rfl, by kernel_rfl⟩
def ti28 : TI := ⟨.int .i64, 1, 8, [(Value.int .i64 0)]⟩
theorem tiok28 : TIok Try.prog 28 ti28 := ⟨Try.underlying28, by kernel_rfl, by kernel_rfl⟩
def ti29 : TI := ⟨.tuple #[23, 28], 1, 0, [(Value.tuple #[(Value.slice none 0 0), (Value.int .i64 0)])]⟩
theorem tiok29 : TIok Try.prog 29 ti29 := ⟨Try.underlying29, by kernel_rfl, by kernel_rfl⟩
abbrev ty_int : Nat := 3
abbrev ty_bool : Nat := 4
abbrev ty_uint8 : Nat := 5
abbrev ty_string : Nat := 9
abbrev ty_uint32 : Nat := 22
abbrev ty_sl_uint8 : Nat := 23
abbrev ty_api_Errno : Nat := 28
abbrev ty_sl_uint8_api_Errno : Nat := 29
def tb : List (Option TI) := [none, none, none, some ti3, some ti4, some ti5, none, none, none, some ti9, none, none, none, none, none, none, none, none, none, none, none, none, some ti22, some ti23, none, none, none, none, some ti28, some ti29]
theorem tbok : TabOk Try.prog 0 tb := (And.intro tiok3 (And.intro tiok4 (And.intro tiok5 (And.intro tiok9 (And.intro tiok22 (And.intro tiok23 (And.intro tiok28 (And.intro tiok29 trivial))))))))
def fns : List Nat := [9, 10, 11, 12, 13, 14, 15, 16, 17, 18, 19, 20]
theorem fnsok : FnsOk Try.prog fns := (And.intro ⟨Try.f9, Try.func9, by kernel_rfl, by kernel_rfl⟩ (And.intro ⟨Try.f10, Try.func10, by kernel_rfl, by kernel_rfl⟩ (And.intro ⟨Try.f11, Try.func11, by kernel_rfl, by kernel_rfl⟩ (And.intro ⟨Try.f12, Try.func12, by kernel_rfl, by kernel_rfl⟩ (And.intro ⟨Try.f13, Try.func13, by kernel_rfl, by kernel_rfl⟩ (And.intro ⟨Try.f14, Try.func14, by kernel_rfl, by kernel_rfl⟩ (And.intro ⟨Try.f15, Try.func15, by kernel_rfl, by kernel_rfl⟩ (And.intro ⟨Try.f16, Try.func16, by kernel_rfl, by kernel_rfl⟩ (And.intro ⟨Try.f17, Try.func17, by kernel_rfl, by kernel_rfl⟩ (And.intro ⟨Try.f18, Try.func18, by kernel_rfl, by kernel_rfl⟩ (And.intro ⟨Try.f19, Try.func19, by kernel_rfl, by kernel_rfl⟩ (And.intro ⟨Try.f20, Try.func20, by kernel_rfl, by kernel_rfl⟩ trivial))))))))))))
noncomputable def cx : Cx := { P := Try.prog, tb := tb, fns := fns }
theorem cxok : CxOk cx := { tab := tbok, fn := fnsOk_use fnsok, mixed := by kernel_rfl }
end Go.Proofs.Ytikclgliegfocaa.G
