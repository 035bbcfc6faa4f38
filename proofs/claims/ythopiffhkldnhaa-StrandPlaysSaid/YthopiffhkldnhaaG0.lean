/- The tables that Dec reads of the program, and that they are the program's. Conditions: none. -/
import Derived.Test.YthopiffhkldnhaaProg
import Derived.Test.YthopiffhkldnhaaDecH
import Derived.KernelRfl
namespace Go.Proofs.Ythopiffhkldnhaa.G
open Go.Dec
set_option linter.unusedVariables false
def ti0 : TI := ⟨.tuple #[], 1, 0, [(Value.tuple #[])]⟩
theorem tiok0 : TIok Try.prog 0 ti0 := ⟨Try.underlying0, by kernel_rfl, by kernel_rfl⟩
def ti3 : TI := ⟨.int .i64, 1, 8, [(Value.int .i64 0)]⟩
theorem tiok3 : TIok Try.prog 3 ti3 := ⟨Try.underlying3, by kernel_rfl, by kernel_rfl⟩
def ti4 : TI := ⟨.bool, 1, 1, [(Value.bool false)]⟩
theorem tiok4 : TIok Try.prog 4 ti4 := ⟨Try.underlying4, by kernel_rfl, by kernel_rfl⟩
def ti5 : TI := ⟨.int .u8, 1, 1, [(Value.int .u8 0)]⟩
theorem tiok5 : TIok Try.prog 5 ti5 := ⟨Try.underlying5, by kernel_rfl, by kernel_rfl⟩
def ti23 : TI := ⟨.struct #[⟨ "Segments", 3, 0, false, "", "", 0⟩, ⟨ "Blocks", 3, 1, false, "", "", 8⟩], 2, 16, [(Value.int .i64 0), (Value.int .i64 0)]⟩
theorem tiok23 : TIok Try.prog 23 ti23 := ⟨Try.underlying23, by kernel_rfl, by kernel_rfl⟩
def ti24 : TI := ⟨.slice 3, 1, 24, [(Value.slice none 0 0)]⟩
theorem tiok24 : TIok Try.prog 24 ti24 := ⟨Try.underlying24, by kernel_rfl, by kernel_rfl⟩
def ti25 : TI := ⟨.slice 35, 1, 24, [(Value.slice none 0 0)]⟩
theorem tiok25 : TIok Try.prog 25 ti25 := ⟨Try.underlying25, by kernel_rfl, by kernel_rfl⟩
def ti26 : TI := ⟨.pointer 57, 1, 8, [(Value.pointer none)]⟩
theorem tiok26 : TIok Try.prog 26 ti26 := ⟨Try.underlying26, by kernel_rfl, by kernel_rfl⟩
def ti27 : TI := ⟨.int .i64, 1, 8, [(Value.int .i64 0)]⟩
theorem tiok27 : TIok Try.prog 27 ti27 := ⟨Try.underlying27, by kernel_rfl, by kernel_rfl⟩
def ti28 : TI := ⟨.tuple #[26, 27], 1, 0, [(Value.tuple #[(Value.pointer none), (Value.int .i64 0)])]⟩
theorem tiok28 : TIok Try.prog 28 ti28 := ⟨Try.underlying28, by kernel_rfl, by kernel_rfl⟩
def ti30 : TI := ⟨.pointer 47, 1, 8, [(Value.pointer none)]⟩
theorem tiok30 : TIok Try.prog 30 ti30 := ⟨Try.underlying30, by kernel_rfl, by kernel_rfl⟩
def ti31 : TI := ⟨.tuple #[30, 27], 1, 0, [(Value.tuple #[(Value.pointer none), (Value.int .i64 0)])]⟩
theorem tiok31 : TIok Try.prog 31 ti31 := ⟨Try.underlying31, by kernel_rfl, by kernel_rfl⟩
def ti35 : TI := ⟨.struct #[⟨ "What", 3, 0, false, "", "", 0⟩, ⟨ "N", 3, 1, false, "", "", 8⟩], 2, 16, [(Value.int .i64 0), (Value.int .i64 0)]⟩
theorem tiok35 : TIok Try.prog 35 ti35 := ⟨Try.underlying35, by kernel_rfl, by kernel_rfl⟩
def ti36 : TI := ⟨.complex .f64, 1, 16, [(Value.complex .f64 0 0)]⟩
theorem tiok36 : TIok Try.prog 36 ti36 := ⟨Try.underlying36, by kernel_rfl, by kernel_rfl⟩
def ti37 : TI := ⟨.tuple #[36, 27], 1, 0, [(Value.tuple #[(Value.complex .f64 0 0), (Value.int .i64 0)])]⟩
theorem tiok37 : TIok Try.prog 37 ti37 := ⟨Try.underlying37, by kernel_rfl, by kernel_rfl⟩
def ti41 : TI := ⟨.tuple #[24, 3], 1, 0, [(Value.tuple #[(Value.slice none 0 0), (Value.int .i64 0)])]⟩
theorem tiok41 : TIok Try.prog 41 ti41 := ⟨Try.underlying41, by kernel_rfl, by kernel_rfl⟩
def ti45 : TI := ⟨.slice 4, 1, 24, [(Value.slice none 0 0)]⟩
theorem tiok45 : TIok Try.prog 45 ti45 := ⟨Try.underlying45, by kernel_rfl, by kernel_rfl⟩
def ti47 : TI := ⟨.struct #[⟨ "P", 23, 0, false, "", "", 0⟩, ⟨ "Is", 45, 2, false, "", "", 16⟩, ⟨ "Head", 3, 3, false, "", "", 40⟩, ⟨ "Slot", 3, 4, false, "", "", 48⟩], 5, 56, [(Value.int .i64 0), (Value.int .i64 0), (Value.slice none 0 0), (Value.int .i64 0), (Value.int .i64 0)]⟩
theorem tiok47 : TIok Try.prog 47 ti47 := ⟨Try.underlying47, by kernel_rfl, by kernel_rfl⟩
def ti49 : TI := ⟨.slice 5, 1, 24, [(Value.slice none 0 0)]⟩
theorem tiok49 : TIok Try.prog 49 ti49 := ⟨Try.underlying49, by kernel_rfl, by kernel_rfl⟩
def ti50 : TI := ⟨.tuple #[3, 27], 1, 0, [(Value.tuple #[(Value.int .i64 0), (Value.int .i64 0)])]⟩
theorem tiok50 : TIok Try.prog 50 ti50 := ⟨Try.underlying50, by kernel_rfl, by kernel_rfl⟩
def ti57 : TI := ⟨.struct #[⟨ "plat", 23, 0, false, "", "stopcock/strand", 0⟩, ⟨ "free", 24, 2, false, "", "stopcock/strand", 16⟩, ⟨ "head", 3, 3, false, "", "stopcock/strand", 40⟩, ⟨ "used", 3, 4, false, "", "stopcock/strand", 48⟩], 5, 56, [(Value.int .i64 0), (Value.int .i64 0), (Value.slice none 0 0), (Value.int .i64 0), (Value.int .i64 0)]⟩
theorem tiok57 : TIok Try.prog 57 ti57 := ⟨Try.underlying57, by kernel_rfl, by kernel_rfl⟩
def ti62 : TI := ⟨.tuple #[3, 4], 1, 0, [(Value.tuple #[(Value.int .i64 0), (Value.bool false)])]⟩
theorem tiok62 : TIok Try.prog 62 ti62 := ⟨Try.underlying62, by kernel_rfl, by kernel_rfl⟩
def ti65 : TI := ⟨.tuple #[3, 3, 27], 1, 0, [(Value.tuple #[(Value.int .i64 0), (Value.int .i64 0), (Value.int .i64 0)])]⟩
theorem tiok65 : TIok Try.prog 65 ti65 := ⟨Try.underlying65, by kernel_rfl, by kernel_rfl⟩
def ti67 : TI := ⟨.float .f64, 1, 8, [(Value.float .f64 0)]⟩
theorem tiok67 : TIok Try.prog 67 ti67 := ⟨Try.underlying67, by kernel_rfl, by kernel_rfl⟩
def ti69 : TI := ⟨.int .u64, 1, 8, [(Value.int .u64 0)]⟩
theorem tiok69 : TIok Try.prog 69 ti69 := ⟨Try.underlying69, by kernel_rfl, by kernel_rfl⟩
abbrev ty_ : Nat := 0
abbrev ty_int : Nat := 3
abbrev ty_bool : Nat := 4
abbrev ty_uint8 : Nat := 5
abbrev ty_api_Plat : Nat := 23
abbrev ty_sl_int : Nat := 24
abbrev ty_sl_stopcocklaw16_Act : Nat := 25
abbrev ty_pt_strand_Strand : Nat := 26
abbrev ty_api_Errno : Nat := 27
abbrev ty_pt_strand_Strand_api_Errno : Nat := 28
abbrev ty_pt_stopcockref16_Strand : Nat := 30
abbrev ty_pt_stopcockref16_Strand_api_Errno : Nat := 31
abbrev ty_stopcocklaw16_Act : Nat := 35
abbrev ty_complex128 : Nat := 36
abbrev ty_complex128_api_Errno : Nat := 37
abbrev ty_sl_int_int : Nat := 41
abbrev ty_sl_bool : Nat := 45
abbrev ty_stopcockref16_Strand : Nat := 47
abbrev ty_sl_uint8 : Nat := 49
abbrev ty_int_api_Errno : Nat := 50
abbrev ty_strand_Strand : Nat := 57
abbrev ty_int_bool : Nat := 62
abbrev ty_int_int_api_Errno : Nat := 65
abbrev ty_float64 : Nat := 67
abbrev ty_uint : Nat := 69
def tb : List (Option TI) := [some ti0, none, none, some ti3, some ti4, some ti5, none, none, none, none, none, none, none, none, none, none, none, none, none, none, none, none, none, some ti23, some ti24, some ti25, some ti26, some ti27, some ti28, none, some ti30, some ti31, none, none, none, some ti35, some ti36, some ti37, none, none, none, some ti41, none, none, none, some ti45, none, some ti47, none, some ti49, some ti50, none, none, none, none, none, none, some ti57, none, none, none, none, some ti62, none, none, some ti65, none, some ti67, none, some ti69]
theorem tbok : TabOk Try.prog 0 tb := (And.intro tiok0 (And.intro tiok3 (And.intro tiok4 (And.intro tiok5 (And.intro tiok23 (And.intro tiok24 (And.intro tiok25 (And.intro tiok26 (And.intro tiok27 (And.intro tiok28 (And.intro tiok30 (And.intro tiok31 (And.intro tiok35 (And.intro tiok36 (And.intro tiok37 (And.intro tiok41 (And.intro tiok45 (And.intro tiok47 (And.intro tiok49 (And.intro tiok50 (And.intro tiok57 (And.intro tiok62 (And.intro tiok65 (And.intro tiok67 (And.intro tiok69 trivial)))))))))))))))))))))))))
def fns : List Nat := [7, 8, 9, 10, 11, 12, 13, 14, 15, 16, 17, 18, 19, 20, 21, 22, 23, 24, 25, 26, 27, 28, 29, 30, 31, 32, 33, 35, 36, 37, 38, 39]
theorem fnsok : FnsOk Try.prog fns := (And.intro ⟨Try.f7, Try.func7, by kernel_rfl, by kernel_rfl⟩ (And.intro ⟨Try.f8, Try.func8, by kernel_rfl, by kernel_rfl⟩ (And.intro ⟨Try.f9, Try.func9, by kernel_rfl, by kernel_rfl⟩ (And.intro ⟨Try.f10, Try.func10, by kernel_rfl, by kernel_rfl⟩ (And.intro ⟨Try.f11, Try.func11, by kernel_rfl, by kernel_rfl⟩ (And.intro ⟨Try.f12, Try.func12, by kernel_rfl, by kernel_rfl⟩ (And.intro ⟨Try.f13, Try.func13, by kernel_rfl, by kernel_rfl⟩ (And.intro ⟨Try.f14, Try.func14, by kernel_rfl, by kernel_rfl⟩ (And.intro ⟨Try.f15, Try.func15, by kernel_rfl, by kernel_rfl⟩ (And.intro ⟨Try.f16, Try.func16, by kernel_rfl, by kernel_rfl⟩ (And.intro ⟨Try.f17, Try.func17, by kernel_rfl, by kernel_rfl⟩ (And.intro ⟨Try.f18, Try.func18, by kernel_rfl, by kernel_rfl⟩ (And.intro ⟨Try.f19, Try.func19, by kernel_rfl, by kernel_rfl⟩ (And.intro ⟨Try.f20, Try.func20, by kernel_rfl, by kernel_rfl⟩ (And.intro ⟨Try.f21, Try.func21, by kernel_rfl, by kernel_rfl⟩ (And.intro ⟨Try.f22, Try.func22, by kernel_rfl, by kernel_rfl⟩ (And.intro ⟨Try.f23, Try.func23, by kernel_rfl, by kernel_rfl⟩ (And.intro ⟨Try.f24, Try.func24, by kernel_rfl, by kernel_rfl⟩ (And.intro ⟨Try.f25, Try.func25, by kernel_rfl, by kernel_rfl⟩ (And.intro ⟨Try.f26, Try.func26, by kernel_rfl, by kernel_rfl⟩ (And.intro ⟨Try.f27, Try.func27, by kernel_rfl, by kernel_rfl⟩ (And.intro ⟨Try.f28, Try.func28, by kernel_rfl, by kernel_rfl⟩ (And.intro ⟨Try.f29, Try.func29, by kernel_rfl, by kernel_rfl⟩ (And.intro ⟨Try.f30, Try.func30, by kernel_rfl, by kernel_rfl⟩ (And.intro ⟨Try.f31, Try.func31, by kernel_rfl, by kernel_rfl⟩ (And.intro ⟨Try.f32, Try.func32, by kernel_rfl, by kernel_rfl⟩ (And.intro ⟨Try.f33, Try.func33, by kernel_rfl, by kernel_rfl⟩ (And.intro ⟨Try.f35, Try.func35, by kernel_rfl, by kernel_rfl⟩ (And.intro ⟨Try.f36, Try.func36, by kernel_rfl, by kernel_rfl⟩ (And.intro ⟨Try.f37, Try.func37, by kernel_rfl, by kernel_rfl⟩ (And.intro ⟨Try.f38, Try.func38, by kernel_rfl, by kernel_rfl⟩ (And.intro ⟨Try.f39, Try.func39, by kernel_rfl, by kernel_rfl⟩ trivial))))))))))))))))))))))))))))))))
noncomputable def cx : Cx := { P := Try.prog, tb := tb, fns := fns }
theorem cxok : CxOk cx := { tab := tbok, fn := fnsOk_use fnsok, mixed := by kernel_rfl }
end Go.Proofs.Ythopiffhkldnhaa.G
