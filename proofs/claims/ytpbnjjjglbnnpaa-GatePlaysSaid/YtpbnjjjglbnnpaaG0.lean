/- The tables that Dec reads of the program, and that they are the program's. Conditions: none. -/
import Derived.Test.YtpbnjjjglbnnpaaProg
import Derived.Test.YtpbnjjjglbnnpaaDecH
import Derived.KernelRfl
namespace Go.Proofs.Ytpbnjjjglbnnpaa.G
open Go.Dec
set_option linter.unusedVariables false
def ti3 : TI := ⟨.int .i64, 1, 8, [(Value.int .i64 0)]⟩
theorem tiok3 : TIok Try.prog 3 ti3 := ⟨Try.underlying3, by kernel_rfl, by kernel_rfl⟩
def ti4 : TI := ⟨.bool, 1, 1, [(Value.bool false)]⟩
theorem tiok4 : TIok Try.prog 4 ti4 := ⟨Try.underlying4, by kernel_rfl, by kernel_rfl⟩
def ti5 : TI := ⟨.int .u8, 1, 1, [(Value.int .u8 0)]⟩
theorem tiok5 : TIok Try.prog 5 ti5 := ⟨Try.underlying5, by kernel_rfl, by kernel_rfl⟩
def ti9 : TI := ⟨.string, 1, 16, [(Value.string ⟨#[]⟩)]⟩
theorem tiok9 : TIok Try.prog 9 ti9 := ⟨Try.underlying9, by kernel_rfl, by kernel_rfl⟩
def ti20 : TI := ⟨.interface #[], 1, 16, [Value.nilIface]⟩
theorem tiok20 : TIok Try.prog 20 ti20 := ⟨Try.underlying20, by kernel_rfl, by kernel_rfl⟩
def ti22 : TI := ⟨.slice 31, 1, 24, [(Value.slice none 0 0)]⟩
theorem tiok22 : TIok Try.prog 22 ti22 := ⟨Try.underlying22, by kernel_rfl, by kernel_rfl⟩
def ti23 : TI := ⟨.pointer 47, 1, 8, [(Value.pointer none)]⟩
theorem tiok23 : TIok Try.prog 23 ti23 := ⟨Try.underlying23, by kernel_rfl, by kernel_rfl⟩
def ti26 : TI := ⟨.slice 29, 1, 24, [(Value.slice none 0 0)]⟩
theorem tiok26 : TIok Try.prog 26 ti26 := ⟨Try.underlying26, by kernel_rfl, by kernel_rfl⟩
def ti27 : TI := ⟨.slice 5, 1, 24, [(Value.slice none 0 0)]⟩
theorem tiok27 : TIok Try.prog 27 ti27 := ⟨Try.underlying27, by kernel_rfl, by kernel_rfl⟩
def ti29 : TI := ⟨.struct #[⟨ "Kind", 3, 0, false, "", "", 0⟩, ⟨ "Vol", 3, 1, false, "", "", 8⟩, ⟨ "Block", 3, 2, false, "", "", 16⟩, ⟨ "Size", 3, 3, false, "", "", 24⟩, ⟨ "Data", 27, 4, false, "", "", 32⟩], 5, 56, [(Value.int .i64 0), (Value.int .i64 0), (Value.int .i64 0), (Value.int .i64 0), (Value.slice none 0 0)]⟩
theorem tiok29 : TIok Try.prog 29 ti29 := ⟨Try.underlying29, by kernel_rfl, by kernel_rfl⟩
def ti31 : TI := ⟨.struct #[⟨ "What", 3, 0, false, "", "", 0⟩, ⟨ "Request", 29, 1, false, "", "", 8⟩], 6, 64, [(Value.int .i64 0), (Value.int .i64 0), (Value.int .i64 0), (Value.int .i64 0), (Value.int .i64 0), (Value.slice none 0 0)]⟩
theorem tiok31 : TIok Try.prog 31 ti31 := ⟨Try.underlying31, by kernel_rfl, by kernel_rfl⟩
def ti32 : TI := ⟨.int .i64, 1, 8, [(Value.int .i64 0)]⟩
theorem tiok32 : TIok Try.prog 32 ti32 := ⟨Try.underlying32, by kernel_rfl, by kernel_rfl⟩
def ti33 : TI := ⟨.tuple #[3, 32], 1, 0, [(Value.tuple #[(Value.int .i64 0), (Value.int .i64 0)])]⟩
theorem tiok33 : TIok Try.prog 33 ti33 := ⟨Try.underlying33, by kernel_rfl, by kernel_rfl⟩
def ti36 : TI := ⟨.tuple #[3, 29, 32], 1, 0, [(Value.tuple #[(Value.int .i64 0), (Value.agg #[(Value.int .i64 0), (Value.int .i64 0), (Value.int .i64 0), (Value.int .i64 0), (Value.slice none 0 0)]), (Value.int .i64 0)])]⟩
theorem tiok36 : TIok Try.prog 36 ti36 := ⟨Try.underlying36, by kernel_rfl, by kernel_rfl⟩
def ti45 : TI := ⟨.slice 20, 1, 24, [(Value.slice none 0 0)]⟩
theorem tiok45 : TIok Try.prog 45 ti45 := ⟨Try.underlying45, by kernel_rfl, by kernel_rfl⟩
def ti47 : TI := ⟨.struct #[⟨ "waits", 45, 0, false, "", "stopcock/gate", 0⟩, ⟨ "ticket", 3, 1, false, "", "stopcock/gate", 24⟩], 2, 32, [(Value.slice none 0 0), (Value.int .i64 0)]⟩
theorem tiok47 : TIok Try.prog 47 ti47 := ⟨Try.underlying47, by kernel_rfl, by kernel_rfl⟩
def ti50 : TI := ⟨.struct #[⟨ "Request", 29, 0, true, "", "", 0⟩, ⟨ "ticket", 3, 5, false, "", "stopcock/gate", 56⟩], 6, 64, [(Value.int .i64 0), (Value.int .i64 0), (Value.int .i64 0), (Value.int .i64 0), (Value.slice none 0 0), (Value.int .i64 0)]⟩
theorem tiok50 : TIok Try.prog 50 ti50 := ⟨Try.underlying50, by kernel_rfl, by kernel_rfl⟩
abbrev ty_int : Nat := 3
abbrev ty_bool : Nat := 4
abbrev ty_uint8 : Nat := 5
abbrev ty_string : Nat := 9
abbrev ty_interface : Nat := 20
abbrev ty_sl_stopcocklaw19_Act : Nat := 22
abbrev ty_pt_gate_Gate : Nat := 23
abbrev ty_sl_api_Request : Nat := 26
abbrev ty_sl_uint8 : Nat := 27
abbrev ty_api_Request : Nat := 29
abbrev ty_stopcocklaw19_Act : Nat := 31
abbrev ty_api_Errno : Nat := 32
abbrev ty_int_api_Errno : Nat := 33
abbrev ty_int_api_Request_api_Errno : Nat := 36
abbrev ty_sl_interface : Nat := 45
abbrev ty_gate_Gate : Nat := 47
abbrev ty_gate_wait : Nat := 50
def tb : List (Option TI) := [none, none, none, some ti3, some ti4, some ti5, none, none, none, some ti9, none, none, none, none, none, none, none, none, none, none, some ti20, none, some ti22, some ti23, none, none, some ti26, some ti27, none, some ti29, none, some ti31, some ti32, some ti33, none, none, some ti36, none, none, none, none, none, none, none, none, some ti45, none, some ti47, none, none, some ti50]
theorem tbok : TabOk Try.prog 0 tb := (And.intro tiok3 (And.intro tiok4 (And.intro tiok5 (And.intro tiok9 (And.intro tiok20 (And.intro tiok22 (And.intro tiok23 (And.intro tiok26 (And.intro tiok27 (And.intro tiok29 (And.intro tiok31 (And.intro tiok32 (And.intro tiok33 (And.intro tiok36 (And.intro tiok45 (And.intro tiok47 (And.intro tiok50 trivial)))))))))))))))))
def fns : List Nat := [7, 8, 9, 10, 11, 12, 13, 14, 15, 16]
theorem fnsok : FnsOk Try.prog fns := (And.intro ⟨Try.f7, Try.func7, by kernel_rfl, by kernel_rfl⟩ (And.intro ⟨Try.f8, Try.func8, by kernel_rfl, by kernel_rfl⟩ (And.intro ⟨Try.f9, Try.func9, by kernel_rfl, by kernel_rfl⟩ (And.intro ⟨Try.f10, Try.func10, by kernel_rfl, by kernel_rfl⟩ (And.intro ⟨Try.f11, Try.func11, by kernel_rfl, by kernel_rfl⟩ (And.intro ⟨Try.f12, Try.func12, by kernel_rfl, by kernel_rfl⟩ (And.intro ⟨Try.f13, Try.func13, by kernel_rfl, by kernel_rfl⟩ (And.intro ⟨Try.f14, Try.func14, by kernel_rfl, by kernel_rfl⟩ (And.intro ⟨Try.f15, Try.func15, by kernel_rfl, by kernel_rfl⟩ (And.intro ⟨Try.f16, Try.func16, by kernel_rfl, by kernel_rfl⟩ trivial))))))))))
noncomputable def cx : Cx := { P := Try.prog, tb := tb, fns := fns }
theorem cxok : CxOk cx := { tab := tbok, fn := fnsOk_use fnsok, mixed := by kernel_rfl }
end Go.Proofs.Ytpbnjjjglbnnpaa.G
