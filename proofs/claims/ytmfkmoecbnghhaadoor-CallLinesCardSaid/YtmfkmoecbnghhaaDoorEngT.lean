/- The types that the program uses, as a table. -/
import Derived.Test.YtmfkmoecbnghhaaDoorProg
import Derived.Test.YtmfkmoecbnghhaaDoorEngL
namespace Go.YtmfkmoecbnghhaaDoor
open Go Eng Go.Proofs
set_option maxRecDepth 100000

def ti3 : TI := ⟨1, .int .i64 0, Go.TypeDesc.int (Go.IntKind.i64)⟩
def ti4 : TI := ⟨1, .bool false, Go.TypeDesc.bool⟩
def ti5 : TI := ⟨1, .int .u8 0, Go.TypeDesc.int (Go.IntKind.u8)⟩
def ti9 : TI := ⟨1, .string (B ([] : List UInt8)), Go.TypeDesc.string⟩
def ti22 : TI := ⟨1, .slice none 0 0, Go.TypeDesc.slice 36⟩
def ti24 : TI := ⟨1, .int .i64 0, Go.TypeDesc.int (Go.IntKind.i64)⟩
def ti36 : TI := ⟨3, .agg #[.int .i64 0, .int .i64 0, .int .i64 0], Go.TypeDesc.struct #[{ name := "No", type := 3, offset := 0, embedded := false, tag := "", pkgPath := "", byteOffset := 0 }, { name := "A", type := 3, offset := 1, embedded := false, tag := "", pkgPath := "", byteOffset := 8 }, { name := "B", type := 3, offset := 2, embedded := false, tag := "", pkgPath := "", byteOffset := 16 }]⟩
def ti37 : TI := ⟨3, .agg #[.int .i64 0, .int .i64 0, .int .i64 0], Go.TypeDesc.array 3 3⟩
def ti48 : TI := ⟨1, .pointer none, Go.TypeDesc.pointer 51⟩
def ti49 : TI := ⟨1, .slice none 0 0, Go.TypeDesc.slice 5⟩
def ti51 : TI := ⟨2, .agg #[.pointer none, .slice none 0 0], Go.TypeDesc.struct #[{ name := "addr", type := 48, offset := 0, embedded := false, tag := "", pkgPath := "strings", byteOffset := 0 }, { name := "buf", type := 49, offset := 1, embedded := false, tag := "", pkgPath := "strings", byteOffset := 8 }]⟩
def ti53 : TI := ⟨7, .agg #[.string (B ([] : List UInt8)), .int .i64 0, .int .i64 0, .bool false, .int .i64 0, .int .i64 0, .int .i64 0], Go.TypeDesc.struct #[{ name := "word", type := 9, offset := 0, embedded := false, tag := "", pkgPath := "hazel/call", byteOffset := 0 }, { name := "op", type := 3, offset := 1, embedded := false, tag := "", pkgPath := "hazel/call", byteOffset := 16 }, { name := "most", type := 3, offset := 2, embedded := false, tag := "", pkgPath := "hazel/call", byteOffset := 24 }, { name := "value", type := 4, offset := 3, embedded := false, tag := "", pkgPath := "hazel/call", byteOffset := 32 }, { name := "well", type := 3, offset := 4, embedded := false, tag := "", pkgPath := "hazel/call", byteOffset := 40 }, { name := "none", type := 3, offset := 5, embedded := false, tag := "", pkgPath := "hazel/call", byteOffset := 48 }, { name := "had", type := 3, offset := 6, embedded := false, tag := "", pkgPath := "hazel/call", byteOffset := 56 }]⟩
def ti54 : TI := ⟨70, .agg #[.string (B ([] : List UInt8)), .int .i64 0, .int .i64 0, .bool false, .int .i64 0, .int .i64 0, .int .i64 0, .string (B ([] : List UInt8)), .int .i64 0, .int .i64 0, .bool false, .int .i64 0, .int .i64 0, .int .i64 0, .string (B ([] : List UInt8)), .int .i64 0, .int .i64 0, .bool false, .int .i64 0, .int .i64 0, .int .i64 0, .string (B ([] : List UInt8)), .int .i64 0, .int .i64 0, .bool false, .int .i64 0, .int .i64 0, .int .i64 0, .string (B ([] : List UInt8)), .int .i64 0, .int .i64 0, .bool false, .int .i64 0, .int .i64 0, .int .i64 0, .string (B ([] : List UInt8)), .int .i64 0, .int .i64 0, .bool false, .int .i64 0, .int .i64 0, .int .i64 0, .string (B ([] : List UInt8)), .int .i64 0, .int .i64 0, .bool false, .int .i64 0, .int .i64 0, .int .i64 0, .string (B ([] : List UInt8)), .int .i64 0, .int .i64 0, .bool false, .int .i64 0, .int .i64 0, .int .i64 0, .string (B ([] : List UInt8)), .int .i64 0, .int .i64 0, .bool false, .int .i64 0, .int .i64 0, .int .i64 0, .string (B ([] : List UInt8)), .int .i64 0, .int .i64 0, .bool false, .int .i64 0, .int .i64 0, .int .i64 0], Go.TypeDesc.array 10 53⟩
def ti57 : TI := ⟨1, .nilIface, Go.TypeDesc.interface #[("Error", 61)]⟩
def ti68 : TI := ⟨1, .slice none 0 0, Go.TypeDesc.slice 9⟩
def ti71 : TI := ⟨1, .slice none 0 0, Go.TypeDesc.slice 53⟩
def ti72 : TI := ⟨1, .nilFunc, Go.TypeDesc.func #[53] #[4] false⟩
def ti77 : TI := ⟨1, .pointer none, Go.TypeDesc.pointer 5⟩
def ti79 : TI := ⟨1, .pointer none, Go.TypeDesc.unsafePointer⟩
def T : Tab := [(3, ti3), (4, ti4), (5, ti5), (9, ti9), (22, ti22), (24, ti24), (36, ti36), (37, ti37), (48, ti48), (49, ti49), (51, ti51), (53, ti53), (54, ti54), (57, ti57), (68, ti68), (71, ti71), (72, ti72), (77, ti77), (79, ti79)]
theorem TOK : TabOK Tryd.prog T := ⟨by as_aux_lemma => kernel_rfl, by as_aux_lemma => kernel_rfl, by as_aux_lemma => kernel_rfl, by as_aux_lemma => kernel_rfl, by as_aux_lemma => kernel_rfl, by as_aux_lemma => kernel_rfl, by as_aux_lemma => kernel_rfl, by as_aux_lemma => kernel_rfl, by as_aux_lemma => kernel_rfl, by as_aux_lemma => kernel_rfl, by as_aux_lemma => kernel_rfl, by as_aux_lemma => kernel_rfl, by as_aux_lemma => kernel_rfl, by as_aux_lemma => kernel_rfl, by as_aux_lemma => kernel_rfl, by as_aux_lemma => kernel_rfl, by as_aux_lemma => kernel_rfl, by as_aux_lemma => kernel_rfl, by as_aux_lemma => kernel_rfl, by as_aux_lemma => kernel_rfl, by as_aux_lemma => kernel_rfl, by as_aux_lemma => kernel_rfl, by as_aux_lemma => kernel_rfl, by as_aux_lemma => kernel_rfl, by as_aux_lemma => kernel_rfl, by as_aux_lemma => kernel_rfl, by as_aux_lemma => kernel_rfl, by as_aux_lemma => kernel_rfl, by as_aux_lemma => kernel_rfl, by as_aux_lemma => kernel_rfl, by as_aux_lemma => kernel_rfl, by as_aux_lemma => kernel_rfl, by as_aux_lemma => kernel_rfl, by as_aux_lemma => kernel_rfl, by as_aux_lemma => kernel_rfl, by as_aux_lemma => kernel_rfl, by as_aux_lemma => kernel_rfl, by as_aux_lemma => kernel_rfl, trivial⟩
theorem MIX : Tryd.prog.follows .mixedOrders = true := by kernel_rfl
theorem STOK : StOK Tryd.prog T := StOK_of (by kernel_rfl)
end Go.YtmfkmoecbnghhaaDoor
