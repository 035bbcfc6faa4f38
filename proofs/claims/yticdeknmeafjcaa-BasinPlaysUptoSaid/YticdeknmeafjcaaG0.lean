/- The tables that Dec reads of the program, and that they are the program's. Conditions: none. -/
import Derived.Test.YticdeknmeafjcaaProg
import Derived.Test.YticdeknmeafjcaaDecH
import Derived.KernelRfl
namespace Go.Proofs.Yticdeknmeafjcaa.G
open Go.Dec
set_option linter.unusedVariables false
def ti0 : TI := ⟨.tuple #[], 1, 0, [(Value.tuple #[])]⟩
theorem tiok0 : TIok Try.prog 0 ti0 := ⟨Try.underlying0, by kernel_rfl, by kernel_rfl⟩
def ti3 : TI := ⟨.int .i64, 1, 8, [(Value.int .i64 0)]⟩
theorem tiok3 : TIok Try.prog 3 ti3 := ⟨Try.underlying3, by kernel_rfl, by kernel_rfl⟩
def ti4 : TI := ⟨.bool, 1, 1, [(Value.bool false)]⟩
theorem tiok4 : TIok Try.prog 4 ti4 := ⟨Try.underlying4, by kernel_rfl, by kernel_rfl⟩
def ti5 : TI := ⟨.int .u8, 1, 1, [(Value.int .u8 0)]⟩
theorem tiok5 : TIok Try.prog 5 ti5 := ⟨Try.underlying5, by kernel_rfl, by kernel_rfl⟩
def ti9 : TI := ⟨.string, 1, 16, [(Value.string ⟨#[]⟩)]⟩
theorem tiok9 : TIok Try.prog 9 ti9 := ⟨Try.underlying9, by kernel_rfl, by kernel_rfl⟩
def ti22 : TI := ⟨.slice 5, 1, 24, [(Value.slice none 0 0)]⟩
theorem tiok22 : TIok Try.prog 22 ti22 := ⟨Try.underlying22, by kernel_rfl, by kernel_rfl⟩
def ti23 : TI := ⟨.slice 3, 1, 24, [(Value.slice none 0 0)]⟩
theorem tiok23 : TIok Try.prog 23 ti23 := ⟨Try.underlying23, by kernel_rfl, by kernel_rfl⟩
def ti24 : TI := ⟨.pointer 62, 1, 8, [(Value.pointer none)]⟩
theorem tiok24 : TIok Try.prog 24 ti24 := ⟨Try.underlying24, by kernel_rfl, by kernel_rfl⟩
def ti25 : TI := ⟨.int .i64, 1, 8, [(Value.int .i64 0)]⟩
theorem tiok25 : TIok Try.prog 25 ti25 := ⟨Try.underlying25, by kernel_rfl, by kernel_rfl⟩
def ti26 : TI := ⟨.tuple #[24, 25], 1, 0, [(Value.tuple #[(Value.pointer none), (Value.int .i64 0)])]⟩
theorem tiok26 : TIok Try.prog 26 ti26 := ⟨Try.underlying26, by kernel_rfl, by kernel_rfl⟩
def ti32 : TI := ⟨.struct #[⟨ "At", 3, 0, false, "", "", 0⟩, ⟨ "Data", 22, 1, false, "", "", 8⟩], 2, 32, [(Value.int .i64 0), (Value.slice none 0 0)]⟩
theorem tiok32 : TIok Try.prog 32 ti32 := ⟨Try.underlying32, by kernel_rfl, by kernel_rfl⟩
def ti34 : TI := ⟨.slice 4, 1, 24, [(Value.slice none 0 0)]⟩
theorem tiok34 : TIok Try.prog 34 ti34 := ⟨Try.underlying34, by kernel_rfl, by kernel_rfl⟩
def ti36 : TI := ⟨.tuple #[22, 25], 1, 0, [(Value.tuple #[(Value.slice none 0 0), (Value.int .i64 0)])]⟩
theorem tiok36 : TIok Try.prog 36 ti36 := ⟨Try.underlying36, by kernel_rfl, by kernel_rfl⟩
def ti41 : TI := ⟨.slice 46, 1, 24, [(Value.slice none 0 0)]⟩
theorem tiok41 : TIok Try.prog 41 ti41 := ⟨Try.underlying41, by kernel_rfl, by kernel_rfl⟩
def ti42 : TI := ⟨.pointer 54, 1, 8, [(Value.pointer none)]⟩
theorem tiok42 : TIok Try.prog 42 ti42 := ⟨Try.underlying42, by kernel_rfl, by kernel_rfl⟩
def ti44 : TI := ⟨.slice 32, 1, 24, [(Value.slice none 0 0)]⟩
theorem tiok44 : TIok Try.prog 44 ti44 := ⟨Try.underlying44, by kernel_rfl, by kernel_rfl⟩
def ti46 : TI := ⟨.struct #[⟨ "What", 3, 0, false, "", "", 0⟩, ⟨ "N", 3, 1, false, "", "", 8⟩, ⟨ "List", 44, 2, false, "", "", 16⟩, ⟨ "Keep", 23, 3, false, "", "", 40⟩], 4, 64, [(Value.int .i64 0), (Value.int .i64 0), (Value.slice none 0 0), (Value.slice none 0 0)]⟩
theorem tiok46 : TIok Try.prog 46 ti46 := ⟨Try.underlying46, by kernel_rfl, by kernel_rfl⟩
def ti48 : TI := ⟨.tuple #[9, 25], 1, 0, [(Value.tuple #[(Value.string ⟨#[]⟩), (Value.int .i64 0)])]⟩
theorem tiok48 : TIok Try.prog 48 ti48 := ⟨Try.underlying48, by kernel_rfl, by kernel_rfl⟩
def ti51 : TI := ⟨.slice 9, 1, 24, [(Value.slice none 0 0)]⟩
theorem tiok51 : TIok Try.prog 51 ti51 := ⟨Try.underlying51, by kernel_rfl, by kernel_rfl⟩
def ti52 : TI := ⟨.slice 72, 1, 24, [(Value.slice none 0 0)]⟩
theorem tiok52 : TIok Try.prog 52 ti52 := ⟨Try.underlying52, by kernel_rfl, by kernel_rfl⟩
def ti54 : TI := ⟨.struct #[⟨ "Sure", 51, 0, false, "", "", 0⟩, ⟨ "Loose", 52, 1, false, "", "", 24⟩, ⟨ "Left", 3, 2, false, "", "", 48⟩, ⟨ "Off", 4, 3, false, "", "", 56⟩], 4, 64, [(Value.slice none 0 0), (Value.slice none 0 0), (Value.int .i64 0), (Value.bool false)]⟩
theorem tiok54 : TIok Try.prog 54 ti54 := ⟨Try.underlying54, by kernel_rfl, by kernel_rfl⟩
def ti59 : TI := ⟨.slice 66, 1, 24, [(Value.slice none 0 0)]⟩
theorem tiok59 : TIok Try.prog 59 ti59 := ⟨Try.underlying59, by kernel_rfl, by kernel_rfl⟩
def ti60 : TI := ⟨.slice 68, 1, 24, [(Value.slice none 0 0)]⟩
theorem tiok60 : TIok Try.prog 60 ti60 := ⟨Try.underlying60, by kernel_rfl, by kernel_rfl⟩
def ti62 : TI := ⟨.struct #[⟨ "sure", 59, 0, false, "", "stopcock/basin", 0⟩, ⟨ "now", 59, 1, false, "", "stopcock/basin", 24⟩, ⟨ "loose", 60, 2, false, "", "stopcock/basin", 48⟩, ⟨ "after", 3, 3, false, "", "stopcock/basin", 72⟩, ⟨ "off", 4, 4, false, "", "stopcock/basin", 80⟩], 5, 88, [(Value.slice none 0 0), (Value.slice none 0 0), (Value.slice none 0 0), (Value.int .i64 0), (Value.bool false)]⟩
theorem tiok62 : TIok Try.prog 62 ti62 := ⟨Try.underlying62, by kernel_rfl, by kernel_rfl⟩
def ti64 : TI := ⟨.func #[32] #[4] false, 1, 8, [Value.nilFunc]⟩
theorem tiok64 : TIok Try.prog 64 ti64 := ⟨Try.underlying64, by kernel_rfl, by kernel_rfl⟩
def ti66 : TI := ⟨.array 64 5, 64, 64, List.replicate 64 (Value.int .u8 0)⟩
theorem tiok66 : TIok Try.prog 66 ti66 := ⟨Try.underlying66, by kernel_rfl, by kernel_rfl⟩
def ti68 : TI := ⟨.struct #[⟨ "at", 3, 0, false, "", "stopcock/basin", 0⟩, ⟨ "data", 66, 1, false, "", "stopcock/basin", 8⟩], 65, 72, [(Value.int .i64 0), (Value.int .u8 0), (Value.int .u8 0), (Value.int .u8 0), (Value.int .u8 0), (Value.int .u8 0), (Value.int .u8 0), (Value.int .u8 0), (Value.int .u8 0), (Value.int .u8 0), (Value.int .u8 0), (Value.int .u8 0), (Value.int .u8 0), (Value.int .u8 0), (Value.int .u8 0), (Value.int .u8 0), (Value.int .u8 0), (Value.int .u8 0), (Value.int .u8 0), (Value.int .u8 0), (Value.int .u8 0), (Value.int .u8 0), (Value.int .u8 0), (Value.int .u8 0), (Value.int .u8 0), (Value.int .u8 0), (Value.int .u8 0), (Value.int .u8 0), (Value.int .u8 0), (Value.int .u8 0), (Value.int .u8 0), (Value.int .u8 0), (Value.int .u8 0), (Value.int .u8 0), (Value.int .u8 0), (Value.int .u8 0), (Value.int .u8 0), (Value.int .u8 0), (Value.int .u8 0), (Value.int .u8 0), (Value.int .u8 0), (Value.int .u8 0), (Value.int .u8 0), (Value.int .u8 0), (Value.int .u8 0), (Value.int .u8 0), (Value.int .u8 0), (Value.int .u8 0), (Value.int .u8 0), (Value.int .u8 0), (Value.int .u8 0), (Value.int .u8 0), (Value.int .u8 0), (Value.int .u8 0), (Value.int .u8 0), (Value.int .u8 0), (Value.int .u8 0), (Value.int .u8 0), (Value.int .u8 0), (Value.int .u8 0), (Value.int .u8 0), (Value.int .u8 0), (Value.int .u8 0), (Value.int .u8 0), (Value.int .u8 0)]⟩
theorem tiok68 : TIok Try.prog 68 ti68 := ⟨Try.underlying68, by kernel_rfl, by kernel_rfl⟩
def ti72 : TI := ⟨.struct #[⟨ "At", 3, 0, false, "", "", 0⟩, ⟨ "Text", 9, 1, false, "", "", 8⟩], 2, 24, [(Value.int .i64 0), (Value.string ⟨#[]⟩)]⟩
theorem tiok72 : TIok Try.prog 72 ti72 := ⟨Try.underlying72, by kernel_rfl, by kernel_rfl⟩
def ti75 : TI := ⟨.struct #[⟨ "all", 4, 0, false, "", "stopcock/stopcockref05", 0⟩, ⟨ "list", 23, 1, false, "", "stopcock/stopcockref05", 8⟩], 2, 32, [(Value.bool false), (Value.slice none 0 0)]⟩
theorem tiok75 : TIok Try.prog 75 ti75 := ⟨Try.underlying75, by kernel_rfl, by kernel_rfl⟩
abbrev ty_ : Nat := 0
abbrev ty_int : Nat := 3
abbrev ty_bool : Nat := 4
abbrev ty_uint8 : Nat := 5
abbrev ty_string : Nat := 9
abbrev ty_sl_uint8 : Nat := 22
abbrev ty_sl_int : Nat := 23
abbrev ty_pt_basin_Basin : Nat := 24
abbrev ty_api_Errno : Nat := 25
abbrev ty_pt_basin_Basin_api_Errno : Nat := 26
abbrev ty_api_Write : Nat := 32
abbrev ty_sl_bool : Nat := 34
abbrev ty_sl_uint8_api_Errno : Nat := 36
abbrev ty_sl_stopcocklaw05_Act : Nat := 41
abbrev ty_pt_stopcockref05_Basin : Nat := 42
abbrev ty_sl_api_Write : Nat := 44
abbrev ty_stopcocklaw05_Act : Nat := 46
abbrev ty_string_api_Errno : Nat := 48
abbrev ty_sl_string : Nat := 51
abbrev ty_sl_stopcockref05_Write : Nat := 52
abbrev ty_stopcockref05_Basin : Nat := 54
abbrev ty_sl_basin_sector : Nat := 59
abbrev ty_sl_basin_write : Nat := 60
abbrev ty_basin_Basin : Nat := 62
abbrev ty_func_api_Write_bool : Nat := 64
abbrev ty_basin_sector : Nat := 66
abbrev ty_basin_write : Nat := 68
abbrev ty_stopcockref05_Write : Nat := 72
abbrev ty_stopcockref05_which : Nat := 75
def tb : List (Option TI) := [some ti0, none, none, some ti3, some ti4, some ti5, none, none, none, some ti9, none, none, none, none, none, none, none, none, none, none, none, none, some ti22, some ti23, some ti24, some ti25, some ti26, none, none, none, none, none, some ti32, none, some ti34, none, some ti36, none, none, none, none, some ti41, some ti42, none, some ti44, none, some ti46, none, some ti48, none, none, some ti51, some ti52, none, some ti54, none, none, none, none, some ti59, some ti60, none, some ti62, none, some ti64, none, some ti66, none, some ti68, none, none, none, some ti72, none, none, some ti75]
theorem tbok : TabOk Try.prog 0 tb := (And.intro tiok0 (And.intro tiok3 (And.intro tiok4 (And.intro tiok5 (And.intro tiok9 (And.intro tiok22 (And.intro tiok23 (And.intro tiok24 (And.intro tiok25 (And.intro tiok26 (And.intro tiok32 (And.intro tiok34 (And.intro tiok36 (And.intro tiok41 (And.intro tiok42 (And.intro tiok44 (And.intro tiok46 (And.intro tiok48 (And.intro tiok51 (And.intro tiok52 (And.intro tiok54 (And.intro tiok59 (And.intro tiok60 (And.intro tiok62 (And.intro tiok64 (And.intro tiok66 (And.intro tiok68 (And.intro tiok72 (And.intro tiok75 trivial)))))))))))))))))))))))))))))
def fns : List Nat := [8, 9, 10, 11, 12, 13, 14, 15, 16, 17, 18, 19, 20, 21, 22, 23, 24, 25, 26, 27, 28, 29, 30, 31, 32, 33, 34]
theorem fnsok : FnsOk Try.prog fns := (And.intro ⟨Try.f8, Try.func8, by kernel_rfl, by kernel_rfl⟩ (And.intro ⟨Try.f9, Try.func9, by kernel_rfl, by kernel_rfl⟩ (And.intro ⟨Try.f10, Try.func10, by kernel_rfl, by kernel_rfl⟩ (And.intro ⟨Try.f11, Try.func11, by kernel_rfl, by kernel_rfl⟩ (And.intro ⟨Try.f12, Try.func12, by kernel_rfl, by kernel_rfl⟩ (And.intro ⟨Try.f13, Try.func13, by kernel_rfl, by kernel_rfl⟩ (And.intro ⟨Try.f14, Try.func14, by kernel_rfl, by kernel_rfl⟩ (And.intro ⟨Try.f15, Try.func15, by kernel_rfl, by kernel_rfl⟩ (And.intro ⟨Try.f16, Try.func16, by kernel_rfl, by kernel_rfl⟩ (And.intro ⟨Try.f17, Try.func17, by kernel_rfl, by kernel_rfl⟩ (And.intro ⟨Try.f18, Try.func18, by kernel_rfl, by kernel_rfl⟩ (And.intro ⟨Try.f19, Try.func19, by kernel_rfl, by kernel_rfl⟩ (And.intro ⟨Try.f20, Try.func20, by kernel_rfl, by kernel_rfl⟩ (And.intro ⟨Try.f21, Try.func21, by kernel_rfl, by kernel_rfl⟩ (And.intro ⟨Try.f22, Try.func22, by kernel_rfl, by kernel_rfl⟩ (And.intro ⟨Try.f23, Try.func23, by kernel_rfl, by kernel_rfl⟩ (And.intro ⟨Try.f24, Try.func24, by kernel_rfl, by kernel_rfl⟩ (And.intro ⟨Try.f25, Try.func25, by kernel_rfl, by kernel_rfl⟩ (And.intro ⟨Try.f26, Try.func26, by kernel_rfl, by kernel_rfl⟩ (And.intro ⟨Try.f27, Try.func27, by kernel_rfl, by kernel_rfl⟩ (And.intro ⟨Try.f28, Try.func28, by kernel_rfl, by kernel_rfl⟩ (And.intro ⟨Try.f29, Try.func29, by kernel_rfl, by kernel_rfl⟩ (And.intro ⟨Try.f30, Try.func30, by kernel_rfl, by kernel_rfl⟩ (And.intro ⟨Try.f31, Try.func31, by kernel_rfl, by kernel_rfl⟩ (And.intro ⟨Try.f32, Try.func32, by kernel_rfl, by kernel_rfl⟩ (And.intro ⟨Try.f33, Try.func33, by kernel_rfl, by kernel_rfl⟩ (And.intro ⟨Try.f34, Try.func34, by kernel_rfl, by kernel_rfl⟩ trivial)))))))))))))))))))))))))))
noncomputable def cx : Cx := { P := Try.prog, tb := tb, fns := fns }
theorem cxok : CxOk cx := { tab := tbok, fn := fnsOk_use fnsok, mixed := by kernel_rfl }
end Go.Proofs.Yticdeknmeafjcaa.G
