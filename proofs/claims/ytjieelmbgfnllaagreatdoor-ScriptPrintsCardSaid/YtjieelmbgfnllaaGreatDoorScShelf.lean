/-
  DERIVED: THE SHELF's CONTRACTS AT THIS DUMP, IN PLAIN WORDS (tools/lay-plain.mjs out of 'TryzShelf.lean', which tools/lay-shelf.mjs wrote): THE SAME DECLARATIONS UNDER THE SAME NAMES: 'import', 'namespace', 'open', 'def', 'theorem' AND NOTHING ELSE: no command of the shelf's: FOR A HAND-IN. Each laying: the table of numbers ('.._ren') and one theorem, a field a fact of the dump's own or the kernel's comparison; each contract: ONE APPLICATION.
-/
import Derived.Shelf.Strings.Builder1
import Derived.Shelf.Small.Strs
import Derived.Shelf.Strings.BuilderF
import Derived.Shelf.Strings.BuilderK
import Derived.Shelf.Strconv.Itoa0
import Derived.Shelf.Strconv.Itoa1
import Derived.Shelf.LaysM
import Derived.Shelf.Strconv.Itoa2
import Derived.Shelf.Strconv.Itoa3
import Derived.Shelf.Strings.Search1
import Derived.Shelf.Strings.Search2
import Derived.Shelf.Strings.Search3
import Derived.Shelf.Strings.Count
import Derived.Shelf.Strings.Shaped
import Derived.Shelf.Strings.Prefix
import Derived.Shelf.Strings.Split
import Derived.Shelf.Strings.Fields
import Derived.Shelf.Strings.SplitShaped
import Derived.Shelf.Unicode.Latin
import Derived.Shelf.Unicode.DecodeSlow
import Derived.Shelf.Unicode.Is16White
import Derived.Shelf.Unicode.IsSpaceAny
import Derived.Shelf.Unicode.Is16Any
import Derived.Shelf.Unicode.Is32Any
import Derived.Shelf.Unicode.ExclAny
import Derived.Shelf.Slices.Equal
import Derived.Shelf.Slices.Empties2
import Derived.Test.YtjieelmbgfnllaaGreatDoorProg
namespace Go.Proofs
open Go.Shelf
def Tryz.lays170_ren : Go.Shelf.Ren := ⟨fun | 170 => 82 | n => n, fun | 70 => 126 | 3 => 3 | 0 => 0 | 72 => 128 | 37 => 78 | 5 => 5 | n => n, fun | n => n⟩
theorem Tryz.lays170 : Go.Proofs.Lays.n170 Tryz.prog Tryz.lays170_ren := {
  mixed := by kernel_rfl
  f170 := Tryz.func82.trans (congrArg some (by kernel_rfl))
  t0 := Tryz.underlying0
  a0 := Tryz.isAgg0
  z0 := Tryz.sizeOf0
  v0 := Tryz.zeroValue0
  t3 := Tryz.underlying3
  a3 := Tryz.isAgg3
  z3 := Tryz.sizeOf3
  v3 := Tryz.zeroValue3
  t37 := Tryz.underlying78
  a37 := Tryz.isAgg78
  z37 := Tryz.sizeOf78
  v37 := Tryz.zeroValue78
  t70 := Tryz.underlying126
  a70 := Tryz.isAgg126
  z70 := Tryz.sizeOf126
  v70 := Tryz.zeroValue126
  t72 := Tryz.underlying128
  a72 := Tryz.isAgg128
  z72 := Tryz.sizeOf128
  v72 := Tryz.zeroValue128 }
open Go.RowKit in
/-- (*strings.Builder).Len: "Len returns the number of accumulated bytes; b.Len() == len(b.String()).": the world is as it was. (LAID: no walk: one application.) -/
theorem Tryz.Builder_Len (B b : Nat) (bs : List Value) (w : World) (h : Lib.IsBuilder 128 5 B b bs w) :
    Calls Tryz.prog 82 #[.pointer (some ⟨b, 0, none⟩)] w fun e w' => e = .returned (.int .i64 bs.length) ∧ w' = w := Any.Builder_Len Tryz.lays170 B b bs w h
def Tryz.lays169_ren : Go.Shelf.Ren := ⟨fun | 169 => 85 | n => n, fun | 70 => 126 | 9 => 9 | 0 => 0 | 72 => 128 | 37 => 78 | 127 => 242 | 3 => 3 | 5 => 5 | n => n, fun | n => n⟩
theorem Tryz.lays169 : Go.Proofs.Lays.n169 Tryz.prog Tryz.lays169_ren := {
  mixed := by kernel_rfl
  f169 := Tryz.func85.trans (congrArg some (by kernel_rfl))
  t0 := Tryz.underlying0
  a0 := Tryz.isAgg0
  z0 := Tryz.sizeOf0
  v0 := Tryz.zeroValue0
  t3 := Tryz.underlying3
  a3 := Tryz.isAgg3
  z3 := Tryz.sizeOf3
  v3 := Tryz.zeroValue3
  t9 := Tryz.underlying9
  a9 := Tryz.isAgg9
  z9 := Tryz.sizeOf9
  v9 := Tryz.zeroValue9
  t37 := Tryz.underlying78
  a37 := Tryz.isAgg78
  z37 := Tryz.sizeOf78
  v37 := Tryz.zeroValue78
  t70 := Tryz.underlying126
  a70 := Tryz.isAgg126
  z70 := Tryz.sizeOf126
  v70 := Tryz.zeroValue126
  t72 := Tryz.underlying128
  a72 := Tryz.isAgg128
  z72 := Tryz.sizeOf128
  v72 := Tryz.zeroValue128
  t127 := Tryz.underlying242
  a127 := Tryz.isAgg242
  z127 := Tryz.sizeOf242
  v127 := Tryz.zeroValue242 }
theorem Tryz.Builder_Extra_169 : Builder.Extra Tryz.prog Tryz.lays169_ren := {
  sizeBuilder := by kernel_rfl
  liesBuilder := by kernel_rfl
  t5 := Tryz.underlying5
  a5 := Tryz.isAgg5
  z5 := Tryz.sizeOf5
  v5 := Tryz.zeroValue5
  infoByte := by kernel_rfl
  cellsByte := by kernel_rfl
  sizeByte := by kernel_rfl
  neB5 := by decide }
open Go.RowKit in
/-- (*strings.Builder).String: "String returns the accumulated string.": OF A BUILDER THAT HOLDS AT LEAST ONE BYTE. ✋ THE MODEL FREEZES THOSE BYTES IN THE BUFFER (unsafe.String): a later write INTO them ends the model's run without an answer; a later append BEHIND them goes on. The statement's order of evaluation is drawn: one draw. (LAID: no walk: one application.) -/
theorem Tryz.Builder_String (B b : Nat) (l : List UInt8) (w : World) (h : Lib.IsBuilder 128 5 B b (Lib.byteCells l) w) (h0 : l ≠ []) :
    Calls Tryz.prog 85 #[.pointer (some ⟨b, 0, none⟩)] w fun e w' => e = .returned (.string ⟨l.toArray⟩) ∧ Below B w w' := Any.Builder_String Tryz.lays169 Tryz.Builder_Extra_169 B b l w h h0
open Go.RowKit in
/-- (*strings.Builder).String OF A BUILDER THAT HOLDS NO BYTE: the empty string. (Its buffer is nil, or a row of which it has taken nothing yet; where that row has NO capacity the model lays one new block for unsafe.SliceData's 'some address'.) One draw. (LAID: no walk: one application.) -/
theorem Tryz.Builder_String_empty (B b : Nat) (w : World) (h : Lib.IsBuilder 128 5 B b [] w) (hBw : B ≤ w.heap.size) :
    Calls Tryz.prog 85 #[.pointer (some ⟨b, 0, none⟩)] w fun e w' => e = .returned (.string ⟨#[]⟩) ∧ Below B w w' := Any.Builder_String_empty Tryz.lays169 Tryz.Builder_Extra_169 B b w h hBw
open Go.RowKit in
/-- (*strings.Builder).String: "String returns the accumulated string.": WHATEVER THE BUILDER HOLDS. (LAID: no walk: one application.) -/
theorem Tryz.Builder_String_any (B b : Nat) (l : List UInt8) (w : World) (h : Lib.IsBuilder 128 5 B b (Lib.byteCells l) w) (hBw : B ≤ w.heap.size) :
    Calls Tryz.prog 85 #[.pointer (some ⟨b, 0, none⟩)] w fun e w' => e = .returned (.string ⟨l.toArray⟩) ∧ Below B w w' := Any.Builder_String_any Tryz.lays169 Tryz.Builder_Extra_169 B b l w h hBw
def Tryz.lays137_ren : Go.Shelf.Ren := ⟨fun | 137 => 245 | 217 => 241 | 266 => 250 | n => n, fun | 9 => 9 | 5 => 5 | 3 => 3 | n => n, fun | n => n⟩
theorem Tryz.lays137 : Go.Proofs.Lays.n137 Tryz.prog Tryz.lays137_ren := {
  mixed := by kernel_rfl
  f137 := Tryz.func245.trans (congrArg some (by kernel_rfl))
  f217 := Tryz.func241.trans (congrArg some (by kernel_rfl))
  f266 := Tryz.func250.trans (congrArg some (by kernel_rfl))
  t3 := Tryz.underlying3
  a3 := Tryz.isAgg3
  z3 := Tryz.sizeOf3
  v3 := Tryz.zeroValue3
  t5 := Tryz.underlying5
  a5 := Tryz.isAgg5
  z5 := Tryz.sizeOf5
  v5 := Tryz.zeroValue5
  t9 := Tryz.underlying9
  a9 := Tryz.isAgg9
  z9 := Tryz.sizeOf9
  v9 := Tryz.zeroValue9 }
open Go.RowKit in
/-- strings.IndexByte: "IndexByte returns the index of the first instance of c in s, or -1 if c is not present in s.": IT RETURNS 'Lib.indexByte s c'; the world is as it was. (LAID: no walk: one application.) -/
theorem Tryz.strings_IndexByte (s : ByteArray) (c : Int) (w : World) :
    Calls Tryz.prog 245 #[.string s, .int .u8 c] w fun e w' => e = .returned (.int .i64 (Lib.indexByte s.data.toList c.toNat.toUInt8)) ∧ w' = w := Any.strings_IndexByte Tryz.lays137 s c w
open Go.RowKit in
/-- (*strings.Builder).Len: "Len returns the number of accumulated bytes; b.Len() == len(b.String()).": the world is as it was. (THE FORM '_f': 'Lib.IsBuilderF'.) (LAID: no walk: one application.) -/
theorem Tryz.Builder_Len_f (B b : Nat) (bs : List Value) (w : World) (h : Lib.IsBuilderF 128 5 B b bs w) :
    Calls Tryz.prog 82 #[.pointer (some ⟨b, 0, none⟩)] w fun e w' => e = .returned (.int .i64 bs.length) ∧ w' = w := Any.Builder_Len_f Tryz.lays170 B b bs w h
open Go.RowKit in
/-- (*strings.Builder).String: "String returns the accumulated string.": OF A BUILDER THAT HOLDS AT LEAST ONE BYTE. ✋ THE MODEL FREEZES THOSE BYTES IN THE BUFFER (unsafe.String): a later write INTO them ends the model's run without an answer; a later append BEHIND them goes on. The statement's order of evaluation is drawn: one draw. THE FORM '_f': IT SAYS BESIDES THAT THE BUILDER IS A BUILDER STILL ('Lib.IsBuilderF', the same bytes): SO IT CAN BE WRITTEN ON: 'b.WriteString(b.String()[:k])'. (LAID: no walk: one application.) -/
theorem Tryz.Builder_String_f (B b : Nat) (l : List UInt8) (w : World) (h : Lib.IsBuilderF 128 5 B b (Lib.byteCells l) w) (h0 : l ≠ []) :
    Calls Tryz.prog 85 #[.pointer (some ⟨b, 0, none⟩)] w fun e w' => e = .returned (.string ⟨l.toArray⟩) ∧ (Lib.IsBuilderF 128 5 B b (Lib.byteCells l) w' ∧ Below B w w') := Any.Builder_String_f Tryz.lays169 Tryz.Builder_Extra_169 B b l w h h0
open Go.RowKit in
/-- (*strings.Builder).String OF A BUILDER THAT HOLDS NO BYTE: the empty string; THE FORM '_f': a builder still. (LAID: no walk: one application.) -/
theorem Tryz.Builder_String_empty_f (B b : Nat) (w : World) (h : Lib.IsBuilderF 128 5 B b [] w) (hBw : B ≤ w.heap.size) :
    Calls Tryz.prog 85 #[.pointer (some ⟨b, 0, none⟩)] w fun e w' => e = .returned (.string ⟨#[]⟩) ∧ (Lib.IsBuilderF 128 5 B b [] w' ∧ Below B w w') := Any.Builder_String_empty_f Tryz.lays169 Tryz.Builder_Extra_169 B b w h hBw
open Go.RowKit in
/-- (*strings.Builder).String: "String returns the accumulated string.": WHATEVER THE BUILDER HOLDS; THE FORM '_f': OF A BUILDER THAT MAY HAVE BEEN READ BEFORE; AND IT IS A BUILDER STILL, holding the same bytes: it can be written on. (LAID: no walk: one application.) -/
theorem Tryz.Builder_String_any_f (B b : Nat) (l : List UInt8) (w : World) (h : Lib.IsBuilderF 128 5 B b (Lib.byteCells l) w) (hBw : B ≤ w.heap.size) :
    Calls Tryz.prog 85 #[.pointer (some ⟨b, 0, none⟩)] w fun e w' => e = .returned (.string ⟨l.toArray⟩) ∧ (Lib.IsBuilderF 128 5 B b (Lib.byteCells l) w' ∧ Below B w w') := Any.Builder_String_any_f Tryz.lays169 Tryz.Builder_Extra_169 B b l w h hBw
open Go.RowKit in
/-- (*strings.Builder).String: "String returns the accumulated string.": OF A BUILDER THAT HOLDS AT LEAST ONE BYTE. ✋ THE MODEL FREEZES THOSE BYTES IN THE BUFFER (unsafe.String): a later write INTO them ends the model's run without an answer; a later append BEHIND them goes on. The statement's order of evaluation is drawn: one draw. THE FORM '_k': OVER 'Lib.IsBuilderF' (a builder that 'String()' may have read), AND WITH THE FRAME THAT REACHES ABOVE THE BUILDER: 'Lib.OthersKept': every block that is not b and is no row of uint8's stands as it stood: the iterator of a range among them. (LAID: no walk: one application.) -/
theorem Tryz.Builder_String_k (B b : Nat) (l : List UInt8) (w : World) (h : Lib.IsBuilderF 128 5 B b (Lib.byteCells l) w) (h0 : l ≠ []) :
    Calls Tryz.prog 85 #[.pointer (some ⟨b, 0, none⟩)] w fun e w' => e = .returned (.string ⟨l.toArray⟩) ∧ (Lib.IsBuilderF 128 5 B b (Lib.byteCells l) w' ∧ Below B w w' ∧ Lib.OthersKept 5 (some b) w w') := Any.Builder_String_k Tryz.lays169 Tryz.Builder_Extra_169 B b l w h h0
open Go.RowKit in
/-- (*strings.Builder).String OF A BUILDER THAT HOLDS NO BYTE: the empty string; THE FORM '_k': OVER 'Lib.IsBuilderF' (a builder that 'String()' may have read), AND WITH THE FRAME THAT REACHES ABOVE THE BUILDER: 'Lib.OthersKept': every block that is not b and is no row of uint8's stands as it stood: the iterator of a range among them. (LAID: no walk: one application.) -/
theorem Tryz.Builder_String_empty_k (B b : Nat) (w : World) (h : Lib.IsBuilderF 128 5 B b [] w) (hBw : B ≤ w.heap.size) :
    Calls Tryz.prog 85 #[.pointer (some ⟨b, 0, none⟩)] w fun e w' => e = .returned (.string ⟨#[]⟩) ∧ (Lib.IsBuilderF 128 5 B b [] w' ∧ Below B w w' ∧ Lib.OthersKept 5 (some b) w w') := Any.Builder_String_empty_k Tryz.lays169 Tryz.Builder_Extra_169 B b w h hBw
open Go.RowKit in
/-- (*strings.Builder).String: "String returns the accumulated string.": WHATEVER THE BUILDER HOLDS; THE FORM '_k': OVER 'Lib.IsBuilderF' (a builder that 'String()' may have read), AND WITH THE FRAME THAT REACHES ABOVE THE BUILDER: 'Lib.OthersKept': every block that is not b and is no row of uint8's stands as it stood: the iterator of a range among them. (LAID: no walk: one application.) -/
theorem Tryz.Builder_String_any_k (B b : Nat) (l : List UInt8) (w : World) (h : Lib.IsBuilderF 128 5 B b (Lib.byteCells l) w) (hBw : B ≤ w.heap.size) :
    Calls Tryz.prog 85 #[.pointer (some ⟨b, 0, none⟩)] w fun e w' => e = .returned (.string ⟨l.toArray⟩) ∧ (Lib.IsBuilderF 128 5 B b (Lib.byteCells l) w' ∧ Below B w w' ∧ Lib.OthersKept 5 (some b) w w') := Any.Builder_String_any_k Tryz.lays169 Tryz.Builder_Extra_169 B b l w h hBw
def Tryz.lays129_ren : Go.Shelf.Ren := ⟨fun | 129 => 253 | n => n, fun | 53 => 227 | 3 => 3 | 4 => 4 | 46 => 326 | 5 => 5 | 9 => 9 | n => n, fun | n => n⟩
theorem Tryz.lays129 : Go.Proofs.Lays.n129 Tryz.prog Tryz.lays129_ren := {
  mixed := by kernel_rfl
  f129 := Tryz.func253.trans (congrArg some (by kernel_rfl))
  t3 := Tryz.underlying3
  a3 := Tryz.isAgg3
  z3 := Tryz.sizeOf3
  v3 := Tryz.zeroValue3
  t4 := Tryz.underlying4
  a4 := Tryz.isAgg4
  z4 := Tryz.sizeOf4
  v4 := Tryz.zeroValue4
  t5 := Tryz.underlying5
  a5 := Tryz.isAgg5
  z5 := Tryz.sizeOf5
  v5 := Tryz.zeroValue5
  t9 := Tryz.underlying9
  a9 := Tryz.isAgg9
  z9 := Tryz.sizeOf9
  v9 := Tryz.zeroValue9
  t46 := Tryz.underlying326
  a46 := Tryz.isAgg326
  z46 := Tryz.sizeOf326
  v46 := Tryz.zeroValue326
  t53 := Tryz.underlying227
  a53 := Tryz.isAgg227
  z53 := Tryz.sizeOf227
  v53 := Tryz.zeroValue227 }
/-- bits.Len64: "Len64 returns the minimum number of bits required to represent x; the result is 0 for x == 0.": IT RETURNS 'Lib.bitLen x'; the world is as it was. ('h0', 'h1': x is a uint64.) (LAID: no walk: one application.) -/
theorem Tryz.bits_Len64 (x : Int) (w : World) (h0 : 0 ≤ x) (h1 : x ≤ 18446744073709551615) :
    Calls Tryz.prog 253 #[.int .u64 x] w fun e w' => e = .returned (.int .i64 (Lib.bitLen x.toNat)) ∧ w' = w := Any.bits_Len64 Tryz.lays129 x w h0 h1
def Tryz.lays317_ren : Go.Shelf.Ren := ⟨fun | 317 => 252 | n => n, fun | 3 => 3 | 46 => 326 | n => n, fun | n => n⟩
theorem Tryz.lays317 : Go.Proofs.Lays.n317 Tryz.prog Tryz.lays317_ren := {
  mixed := by kernel_rfl
  f317 := Tryz.func252.trans (congrArg some (by kernel_rfl))
  t3 := Tryz.underlying3
  a3 := Tryz.isAgg3
  z3 := Tryz.sizeOf3
  v3 := Tryz.zeroValue3
  t46 := Tryz.underlying326
  a46 := Tryz.isAgg326
  z46 := Tryz.sizeOf326
  v46 := Tryz.zeroValue326 }
open Go.Lib in
/-- internal/strconv.log10Pow2: "log10Pow2(x) returns ⌊log₁₀ 2**x⌋ = ⌊x * log₁₀ 2⌋.": '(x * 78913) >> 18', at an x up to 64 (a length in bits). The world is as it was. (LAID: no walk: one application.) -/
theorem Tryz.internal_strconv_log10Pow2 (x : Nat) (h : x ≤ 64) (w : World) :
    Calls Tryz.prog 252 #[.int .i64 x] w fun e w' => e = .returned (.int .i64 (Lib.l10 x)) ∧ w' = w := Any.internal_strconv_log10Pow2 Tryz.lays317 x h w
def Tryz.lays318_ren : Go.Shelf.Ren := ⟨fun | 318 => 254 | n => n, fun | 3 => 3 | 4 => 4 | n => n, fun | n => n⟩
theorem Tryz.lays318 : Go.Proofs.Lays.n318 Tryz.prog Tryz.lays318_ren := {
  mixed := by kernel_rfl
  f318 := Tryz.func254.trans (congrArg some (by kernel_rfl))
  t3 := Tryz.underlying3
  a3 := Tryz.isAgg3
  z3 := Tryz.sizeOf3
  v3 := Tryz.zeroValue3
  t4 := Tryz.underlying4
  a4 := Tryz.isAgg4
  z4 := Tryz.sizeOf4
  v4 := Tryz.zeroValue4 }
open Go.Lib in
/-- internal/strconv.bool2: "bool2 converts b to an integer: 1 for true, 0 for false." The world is as it was. (LAID: no walk: one application.) -/
theorem Tryz.internal_strconv_bool2_int (b : Bool) (w : World) :
    Calls Tryz.prog 254 #[.bool b] w fun e w' => e = .returned (.int .i64 (if b then 1 else 0)) ∧ w' = w := Any.internal_strconv_bool2_int Tryz.lays318 b w
def Tryz.lays283_ren : Go.Shelf.Ren := ⟨fun | 283 => 246 | n => n, fun | 3 => 3 | 9 => 9 | 4 => 4 | n => n, fun | n => n⟩
theorem Tryz.lays283 : Go.Proofs.Lays.n283 Tryz.prog Tryz.lays283_ren := {
  mixed := by kernel_rfl
  f283 := Tryz.func246.trans (congrArg some (by kernel_rfl))
  t3 := Tryz.underlying3
  a3 := Tryz.isAgg3
  z3 := Tryz.sizeOf3
  v3 := Tryz.zeroValue3
  t4 := Tryz.underlying4
  a4 := Tryz.isAgg4
  z4 := Tryz.sizeOf4
  v4 := Tryz.zeroValue4
  t9 := Tryz.underlying9
  a9 := Tryz.isAgg9
  z9 := Tryz.sizeOf9
  v9 := Tryz.zeroValue9 }
open Go.Lib in
/-- internal/strconv.small: "small returns the string for an i with 0 <= i < nSmalls.": i's decimal numeral. The world is as it was. (LAID: no walk: one application.) -/
theorem Tryz.internal_strconv_small (i : Nat) (h : i < 100) (w : World) :
    Calls Tryz.prog 246 #[.int .i64 i] w fun e w' => e = .returned (.string ⟨(Lib.decDigits i).toArray⟩) ∧ w' = w := Any.internal_strconv_small Tryz.lays283 i h w
def Tryz.laysM284_ren : Go.Shelf.Ren := ⟨fun | 284 => 247 | 129 => 253 | 317 => 252 | 318 => 254 | n => n, fun | 53 => 227 | 3 => 3 | 212 => 340 | 0 => 0 | 4 => 4 | 46 => 326 | 5 => 5 | 9 => 9 | n => n, fun | 17 => 6 | n => n⟩
theorem Tryz.laysM284 : Go.Proofs.LaysM.n284 Tryz.prog Tryz.laysM284_ren := {
  mixed := by kernel_rfl
  f129 := Tryz.func253.trans (congrArg some (by kernel_rfl))
  f284 := Tryz.func247.trans (congrArg some (by kernel_rfl))
  f317 := Tryz.func252.trans (congrArg some (by kernel_rfl))
  f318 := Tryz.func254.trans (congrArg some (by kernel_rfl))
  t0 := Tryz.underlying0
  a0 := Tryz.isAgg0
  z0 := Tryz.sizeOf0
  v0 := Tryz.zeroValue0
  t3 := Tryz.underlying3
  a3 := Tryz.isAgg3
  z3 := Tryz.sizeOf3
  v3 := Tryz.zeroValue3
  t4 := Tryz.underlying4
  a4 := Tryz.isAgg4
  z4 := Tryz.sizeOf4
  v4 := Tryz.zeroValue4
  t5 := Tryz.underlying5
  a5 := Tryz.isAgg5
  z5 := Tryz.sizeOf5
  v5 := Tryz.zeroValue5
  t9 := Tryz.underlying9
  a9 := Tryz.isAgg9
  z9 := Tryz.sizeOf9
  v9 := Tryz.zeroValue9
  t46 := Tryz.underlying326
  a46 := Tryz.isAgg326
  z46 := Tryz.sizeOf326
  v46 := Tryz.zeroValue326
  t53 := Tryz.underlying227
  a53 := Tryz.isAgg227
  z53 := Tryz.sizeOf227
  v53 := Tryz.zeroValue227
  t212 := Tryz.underlying340
  a212 := Tryz.isAgg340
  z212 := Tryz.sizeOf340
  v212 := Tryz.zeroValue340
  g17 := by kernel_rfl
  i0 := by kernel_rfl
  i3 := by kernel_rfl
  i4 := by kernel_rfl
  i5 := by kernel_rfl
  i9 := by kernel_rfl
  i46 := by kernel_rfl
  i53 := by kernel_rfl
  i212 := by kernel_rfl
  m17 := by kernel_rfl }
open Go.Lib in
/-- internal/strconv.numDigits, at a d that is not 0: THE NUMBER OF d's DECIMAL DIGITS. The world is as it was. (LAID: no walk: one application.) -/
theorem Tryz.internal_strconv_numDigits (u : Nat) (h1 : 1 ≤ u) (h2 : u < 18446744073709551616) (w : World) (htab : Lib.TabIs Tryz.prog w "internal/strconv.uint64pow10" .u64 Lib.pow10Tab) :
    Calls Tryz.prog 247 #[.int .u64 u] w fun e w' => e = .returned (.int .i64 (Lib.nDigits u)) ∧ w' = w := Any.internal_strconv_numDigits Tryz.laysM284 u h1 h2 w htab
def Tryz.lays285_ren : Go.Shelf.Ren := ⟨fun | 285 => 248 | n => n, fun | 37 => 78 | 53 => 227 | 3 => 3 | 4 => 4 | 51 => 301 | 9 => 9 | 5 => 5 | 0 => 0 | n => n, fun | n => n⟩
theorem Tryz.lays285 : Go.Proofs.Lays.n285 Tryz.prog Tryz.lays285_ren := {
  mixed := by kernel_rfl
  f285 := Tryz.func248.trans (congrArg some (by kernel_rfl))
  t0 := Tryz.underlying0
  a0 := Tryz.isAgg0
  z0 := Tryz.sizeOf0
  v0 := Tryz.zeroValue0
  t3 := Tryz.underlying3
  a3 := Tryz.isAgg3
  z3 := Tryz.sizeOf3
  v3 := Tryz.zeroValue3
  t4 := Tryz.underlying4
  a4 := Tryz.isAgg4
  z4 := Tryz.sizeOf4
  v4 := Tryz.zeroValue4
  t5 := Tryz.underlying5
  a5 := Tryz.isAgg5
  z5 := Tryz.sizeOf5
  v5 := Tryz.zeroValue5
  t9 := Tryz.underlying9
  a9 := Tryz.isAgg9
  z9 := Tryz.sizeOf9
  v9 := Tryz.zeroValue9
  t37 := Tryz.underlying78
  a37 := Tryz.isAgg78
  z37 := Tryz.sizeOf78
  v37 := Tryz.zeroValue78
  t51 := Tryz.underlying301
  a51 := Tryz.isAgg301
  z51 := Tryz.sizeOf301
  v51 := Tryz.zeroValue301
  t53 := Tryz.underlying227
  a53 := Tryz.isAgg227
  z53 := Tryz.sizeOf227
  v53 := Tryz.zeroValue227 }
open Go.RowKit Go.Sort Go.Lib in
/-- internal/strconv.formatBase10: "formatBase10 formats the decimal representation of u into a. The caller is responsible for ensuring that a is big enough to hold u. If a is too big, leading zeros will be filled in as needed.": THE ROW HOLDS u's DIGITS ('FmtInv .. 0 ..': every place t holds 'dg u (len - 1 - t)'); all else is as it was but for the count of draws. (LAID: no walk: one application.) -/
theorem Tryz.internal_strconv_formatBase10 (blk off cap : Nat) (u : Nat) (d : Array UInt8) (w : World) (hH : Holds (fun (b : UInt8) => Value.int .u8 (b.toNat : Int)) w blk off d) (hu : u < 10 ^ d.size) (hu64 : u < 18446744073709551616) (hsz : d.size < 4611686018427387904) :
    Calls Tryz.prog 248 #[.slice (some ⟨blk, off, none⟩) d.size cap, .int .u64 u] w fun e w' =>
      e = .returned (.tuple #[]) ∧ ∃ (n v' : Nat) (dk : Array UInt8), w' = (putRow (fun (b : UInt8) => Value.int .u8 (b.toNat : Int)) w blk off dk).drewN n ∧ FmtInv d.size u 0 v' dk := Any.internal_strconv_formatBase10 Tryz.lays285 blk off cap u d w hH hu hu64 hsz
def Tryz.laysM246_ren : Go.Shelf.Ren := ⟨fun | 246 => 234 | 283 => 246 | 284 => 247 | 285 => 248 | 286 => 249 | 129 => 253 | 317 => 252 | 318 => 254 | 319 => 255 | 320 => 256 | 337 => 257 | 338 => 258 | n => n, fun | 2 => 2 | 3 => 3 | 9 => 9 | 4 => 4 | 171 => 327 | 0 => 0 | 53 => 227 | 37 => 78 | 5 => 5 | 173 => 330 | 212 => 340 | 51 => 301 | 20 => 20 | 213 => 341 | 46 => 326 | 232 => 344 | 233 => 345 | n => n, fun | 17 => 6 | 18 => 7 | 19 => 8 | n => n⟩
theorem Tryz.laysM246 : Go.Proofs.LaysM.n246 Tryz.prog Tryz.laysM246_ren := {
  mixed := by kernel_rfl
  f129 := Tryz.func253.trans (congrArg some (by kernel_rfl))
  f246 := Tryz.func234.trans (congrArg some (by kernel_rfl))
  f283 := Tryz.func246.trans (congrArg some (by kernel_rfl))
  f284 := Tryz.func247.trans (congrArg some (by kernel_rfl))
  f285 := Tryz.func248.trans (congrArg some (by kernel_rfl))
  f286 := Tryz.func249.trans (congrArg some (by kernel_rfl))
  f317 := Tryz.func252.trans (congrArg some (by kernel_rfl))
  f318 := Tryz.func254.trans (congrArg some (by kernel_rfl))
  f319 := Tryz.func255.trans (congrArg some (by kernel_rfl))
  f320 := Tryz.func256.trans (congrArg some (by kernel_rfl))
  f337 := Tryz.func257.trans (congrArg some (by kernel_rfl))
  f338 := Tryz.func258.trans (congrArg some (by kernel_rfl))
  t0 := Tryz.underlying0
  a0 := Tryz.isAgg0
  z0 := Tryz.sizeOf0
  v0 := Tryz.zeroValue0
  t2 := Tryz.underlying2
  a2 := Tryz.isAgg2
  z2 := Tryz.sizeOf2
  v2 := Tryz.zeroValue2
  t3 := Tryz.underlying3
  a3 := Tryz.isAgg3
  z3 := Tryz.sizeOf3
  v3 := Tryz.zeroValue3
  t4 := Tryz.underlying4
  a4 := Tryz.isAgg4
  z4 := Tryz.sizeOf4
  v4 := Tryz.zeroValue4
  t5 := Tryz.underlying5
  a5 := Tryz.isAgg5
  z5 := Tryz.sizeOf5
  v5 := Tryz.zeroValue5
  t9 := Tryz.underlying9
  a9 := Tryz.isAgg9
  z9 := Tryz.sizeOf9
  v9 := Tryz.zeroValue9
  t20 := Tryz.underlying20
  a20 := Tryz.isAgg20
  z20 := Tryz.sizeOf20
  v20 := Tryz.zeroValue20
  t37 := Tryz.underlying78
  a37 := Tryz.isAgg78
  z37 := Tryz.sizeOf78
  v37 := Tryz.zeroValue78
  t46 := Tryz.underlying326
  a46 := Tryz.isAgg326
  z46 := Tryz.sizeOf326
  v46 := Tryz.zeroValue326
  t51 := Tryz.underlying301
  a51 := Tryz.isAgg301
  z51 := Tryz.sizeOf301
  v51 := Tryz.zeroValue301
  t53 := Tryz.underlying227
  a53 := Tryz.isAgg227
  z53 := Tryz.sizeOf227
  v53 := Tryz.zeroValue227
  t171 := Tryz.underlying327
  a171 := Tryz.isAgg327
  z171 := Tryz.sizeOf327
  v171 := Tryz.zeroValue327
  t173 := Tryz.underlying330
  a173 := Tryz.isAgg330
  z173 := Tryz.sizeOf330
  v173 := Tryz.zeroValue330
  t212 := Tryz.underlying340
  a212 := Tryz.isAgg340
  z212 := Tryz.sizeOf340
  v212 := Tryz.zeroValue340
  t213 := Tryz.underlying341
  a213 := Tryz.isAgg341
  z213 := Tryz.sizeOf341
  t232 := Tryz.underlying344
  a232 := Tryz.isAgg344
  z232 := Tryz.sizeOf344
  v232 := Tryz.zeroValue344
  t233 := Tryz.underlying345
  a233 := Tryz.isAgg345
  z233 := Tryz.sizeOf345
  v233 := Tryz.zeroValue345
  g17 := by kernel_rfl
  g18 := by kernel_rfl
  g19 := by kernel_rfl
  i0 := by kernel_rfl
  i2 := by kernel_rfl
  i3 := by kernel_rfl
  i4 := by kernel_rfl
  i5 := by kernel_rfl
  i9 := by kernel_rfl
  i20 := by kernel_rfl
  i37 := by kernel_rfl
  i46 := by kernel_rfl
  i51 := by kernel_rfl
  i53 := by kernel_rfl
  i171 := by kernel_rfl
  i173 := by kernel_rfl
  i212 := by kernel_rfl
  i232 := by kernel_rfl
  i233 := by kernel_rfl
  m17 := by kernel_rfl
  m18 := by kernel_rfl
  m19 := by kernel_rfl }
open Go.RowKit Go.Sort Go.Lib in
/-- internal/strconv.FormatInt: "FormatInt returns the string representation of i in the given base": AT BASE 10: i's decimal numeral, for every int64. The world behind the call: the world before it, new blocks behind the heap, draws. (LAID: no walk: one application.) -/
theorem Tryz.internal_strconv_FormatInt_10 (n : Int) (h0 : -9223372036854775808 ≤ n) (h1 : n ≤ 9223372036854775807) (w : World) (htab : Lib.TabIs Tryz.prog w "internal/strconv.uint64pow10" .u64 Lib.pow10Tab) :
    Calls Tryz.prog 234 #[.int .i64 n, .int .i64 10] w fun e w' => e = .returned (.string ⟨(Lib.itoa n).toArray⟩) ∧ ∃ k os, w' = grow (w.drewN k) os := Any.internal_strconv_FormatInt_10 Tryz.laysM246 n h0 h1 w htab
def Tryz.lays246_ren : Go.Shelf.Ren := ⟨fun | 246 => 234 | 283 => 246 | 284 => 247 | 285 => 248 | 286 => 249 | 129 => 253 | 317 => 252 | 318 => 254 | 319 => 255 | 320 => 256 | 337 => 257 | 338 => 258 | n => n, fun | 2 => 2 | 3 => 3 | 9 => 9 | 4 => 4 | 171 => 327 | 0 => 0 | 53 => 227 | 37 => 78 | 5 => 5 | 173 => 330 | 212 => 340 | 51 => 301 | 20 => 20 | 213 => 341 | 46 => 326 | 232 => 344 | 233 => 345 | n => n, fun | 17 => 6 | 18 => 7 | 19 => 8 | n => n⟩
theorem Tryz.lays246 : Go.Proofs.Lays.n246 Tryz.prog Tryz.lays246_ren := {
  mixed := by kernel_rfl
  f129 := Tryz.func253.trans (congrArg some (by kernel_rfl))
  f246 := Tryz.func234.trans (congrArg some (by kernel_rfl))
  f283 := Tryz.func246.trans (congrArg some (by kernel_rfl))
  f284 := Tryz.func247.trans (congrArg some (by kernel_rfl))
  f285 := Tryz.func248.trans (congrArg some (by kernel_rfl))
  f286 := Tryz.func249.trans (congrArg some (by kernel_rfl))
  f317 := Tryz.func252.trans (congrArg some (by kernel_rfl))
  f318 := Tryz.func254.trans (congrArg some (by kernel_rfl))
  f319 := Tryz.func255.trans (congrArg some (by kernel_rfl))
  f320 := Tryz.func256.trans (congrArg some (by kernel_rfl))
  f337 := Tryz.func257.trans (congrArg some (by kernel_rfl))
  f338 := Tryz.func258.trans (congrArg some (by kernel_rfl))
  t0 := Tryz.underlying0
  a0 := Tryz.isAgg0
  z0 := Tryz.sizeOf0
  v0 := Tryz.zeroValue0
  t2 := Tryz.underlying2
  a2 := Tryz.isAgg2
  z2 := Tryz.sizeOf2
  v2 := Tryz.zeroValue2
  t3 := Tryz.underlying3
  a3 := Tryz.isAgg3
  z3 := Tryz.sizeOf3
  v3 := Tryz.zeroValue3
  t4 := Tryz.underlying4
  a4 := Tryz.isAgg4
  z4 := Tryz.sizeOf4
  v4 := Tryz.zeroValue4
  t5 := Tryz.underlying5
  a5 := Tryz.isAgg5
  z5 := Tryz.sizeOf5
  v5 := Tryz.zeroValue5
  t9 := Tryz.underlying9
  a9 := Tryz.isAgg9
  z9 := Tryz.sizeOf9
  v9 := Tryz.zeroValue9
  t20 := Tryz.underlying20
  a20 := Tryz.isAgg20
  z20 := Tryz.sizeOf20
  v20 := Tryz.zeroValue20
  t37 := Tryz.underlying78
  a37 := Tryz.isAgg78
  z37 := Tryz.sizeOf78
  v37 := Tryz.zeroValue78
  t46 := Tryz.underlying326
  a46 := Tryz.isAgg326
  z46 := Tryz.sizeOf326
  v46 := Tryz.zeroValue326
  t51 := Tryz.underlying301
  a51 := Tryz.isAgg301
  z51 := Tryz.sizeOf301
  v51 := Tryz.zeroValue301
  t53 := Tryz.underlying227
  a53 := Tryz.isAgg227
  z53 := Tryz.sizeOf227
  v53 := Tryz.zeroValue227
  t171 := Tryz.underlying327
  a171 := Tryz.isAgg327
  z171 := Tryz.sizeOf327
  v171 := Tryz.zeroValue327
  t173 := Tryz.underlying330
  a173 := Tryz.isAgg330
  z173 := Tryz.sizeOf330
  v173 := Tryz.zeroValue330
  t212 := Tryz.underlying340
  a212 := Tryz.isAgg340
  z212 := Tryz.sizeOf340
  v212 := Tryz.zeroValue340
  t213 := Tryz.underlying341
  a213 := Tryz.isAgg341
  z213 := Tryz.sizeOf341
  t232 := Tryz.underlying344
  a232 := Tryz.isAgg344
  z232 := Tryz.sizeOf344
  v232 := Tryz.zeroValue344
  t233 := Tryz.underlying345
  a233 := Tryz.isAgg345
  z233 := Tryz.sizeOf345
  v233 := Tryz.zeroValue345
  g17 := by kernel_rfl
  g18 := by kernel_rfl
  g19 := by kernel_rfl }
open Go.RowKit Go.Sort Go.Lib in
/-- THE ROAD WITHOUT THE TABLE: 0 <= i < 100: two constants are read, nothing is laid: no premise on the world, and the world is as it was. (LAID: no walk: one application.) -/
theorem Tryz.internal_strconv_FormatInt_10_small (i : Nat) (hi : i < 100) (w : World) :
    Calls Tryz.prog 234 #[.int .i64 i, .int .i64 10] w fun e w' => e = .returned (.string ⟨(Lib.decDigits i).toArray⟩) ∧ w' = w := Any.internal_strconv_FormatInt_10_small Tryz.lays246 i hi w
def Tryz.laysM243_ren : Go.Shelf.Ren := ⟨fun | 243 => 216 | 246 => 234 | 283 => 246 | 284 => 247 | 285 => 248 | 286 => 249 | 129 => 253 | 317 => 252 | 318 => 254 | 319 => 255 | 320 => 256 | 337 => 257 | 338 => 258 | n => n, fun | 3 => 3 | 9 => 9 | 2 => 2 | 4 => 4 | 171 => 327 | 0 => 0 | 53 => 227 | 37 => 78 | 5 => 5 | 173 => 330 | 212 => 340 | 51 => 301 | 20 => 20 | 213 => 341 | 46 => 326 | 232 => 344 | 233 => 345 | n => n, fun | 17 => 6 | 18 => 7 | 19 => 8 | n => n⟩
theorem Tryz.laysM243 : Go.Proofs.LaysM.n243 Tryz.prog Tryz.laysM243_ren := {
  mixed := by kernel_rfl
  f129 := Tryz.func253.trans (congrArg some (by kernel_rfl))
  f243 := Tryz.func216.trans (congrArg some (by kernel_rfl))
  f246 := Tryz.func234.trans (congrArg some (by kernel_rfl))
  f283 := Tryz.func246.trans (congrArg some (by kernel_rfl))
  f284 := Tryz.func247.trans (congrArg some (by kernel_rfl))
  f285 := Tryz.func248.trans (congrArg some (by kernel_rfl))
  f286 := Tryz.func249.trans (congrArg some (by kernel_rfl))
  f317 := Tryz.func252.trans (congrArg some (by kernel_rfl))
  f318 := Tryz.func254.trans (congrArg some (by kernel_rfl))
  f319 := Tryz.func255.trans (congrArg some (by kernel_rfl))
  f320 := Tryz.func256.trans (congrArg some (by kernel_rfl))
  f337 := Tryz.func257.trans (congrArg some (by kernel_rfl))
  f338 := Tryz.func258.trans (congrArg some (by kernel_rfl))
  t0 := Tryz.underlying0
  a0 := Tryz.isAgg0
  z0 := Tryz.sizeOf0
  v0 := Tryz.zeroValue0
  t2 := Tryz.underlying2
  a2 := Tryz.isAgg2
  z2 := Tryz.sizeOf2
  v2 := Tryz.zeroValue2
  t3 := Tryz.underlying3
  a3 := Tryz.isAgg3
  z3 := Tryz.sizeOf3
  v3 := Tryz.zeroValue3
  t4 := Tryz.underlying4
  a4 := Tryz.isAgg4
  z4 := Tryz.sizeOf4
  v4 := Tryz.zeroValue4
  t5 := Tryz.underlying5
  a5 := Tryz.isAgg5
  z5 := Tryz.sizeOf5
  v5 := Tryz.zeroValue5
  t9 := Tryz.underlying9
  a9 := Tryz.isAgg9
  z9 := Tryz.sizeOf9
  v9 := Tryz.zeroValue9
  t20 := Tryz.underlying20
  a20 := Tryz.isAgg20
  z20 := Tryz.sizeOf20
  v20 := Tryz.zeroValue20
  t37 := Tryz.underlying78
  a37 := Tryz.isAgg78
  z37 := Tryz.sizeOf78
  v37 := Tryz.zeroValue78
  t46 := Tryz.underlying326
  a46 := Tryz.isAgg326
  z46 := Tryz.sizeOf326
  v46 := Tryz.zeroValue326
  t51 := Tryz.underlying301
  a51 := Tryz.isAgg301
  z51 := Tryz.sizeOf301
  v51 := Tryz.zeroValue301
  t53 := Tryz.underlying227
  a53 := Tryz.isAgg227
  z53 := Tryz.sizeOf227
  v53 := Tryz.zeroValue227
  t171 := Tryz.underlying327
  a171 := Tryz.isAgg327
  z171 := Tryz.sizeOf327
  v171 := Tryz.zeroValue327
  t173 := Tryz.underlying330
  a173 := Tryz.isAgg330
  z173 := Tryz.sizeOf330
  v173 := Tryz.zeroValue330
  t212 := Tryz.underlying340
  a212 := Tryz.isAgg340
  z212 := Tryz.sizeOf340
  v212 := Tryz.zeroValue340
  t213 := Tryz.underlying341
  a213 := Tryz.isAgg341
  z213 := Tryz.sizeOf341
  t232 := Tryz.underlying344
  a232 := Tryz.isAgg344
  z232 := Tryz.sizeOf344
  v232 := Tryz.zeroValue344
  t233 := Tryz.underlying345
  a233 := Tryz.isAgg345
  z233 := Tryz.sizeOf345
  v233 := Tryz.zeroValue345
  g17 := by kernel_rfl
  g18 := by kernel_rfl
  g19 := by kernel_rfl
  i0 := by kernel_rfl
  i2 := by kernel_rfl
  i3 := by kernel_rfl
  i4 := by kernel_rfl
  i5 := by kernel_rfl
  i9 := by kernel_rfl
  i20 := by kernel_rfl
  i37 := by kernel_rfl
  i46 := by kernel_rfl
  i51 := by kernel_rfl
  i53 := by kernel_rfl
  i171 := by kernel_rfl
  i173 := by kernel_rfl
  i212 := by kernel_rfl
  i232 := by kernel_rfl
  i233 := by kernel_rfl
  m17 := by kernel_rfl
  m18 := by kernel_rfl
  m19 := by kernel_rfl }
open Go.RowKit Go.Sort Go.Lib in
/-- internal/strconv.Itoa: "Itoa is equivalent to FormatInt(int64(i), 10).": i's decimal numeral, for every int. (LAID: no walk: one application.) -/
theorem Tryz.internal_strconv_Itoa (n : Int) (h0 : -9223372036854775808 ≤ n) (h1 : n ≤ 9223372036854775807) (w : World) (htab : Lib.TabIs Tryz.prog w "internal/strconv.uint64pow10" .u64 Lib.pow10Tab) :
    Calls Tryz.prog 216 #[.int .i64 n] w fun e w' => e = .returned (.string ⟨(Lib.itoa n).toArray⟩) ∧ ∃ k os, w' = grow (w.drewN k) os := Any.internal_strconv_Itoa Tryz.laysM243 n h0 h1 w htab
def Tryz.lays243_ren : Go.Shelf.Ren := ⟨fun | 243 => 216 | 246 => 234 | 283 => 246 | 284 => 247 | 285 => 248 | 286 => 249 | 129 => 253 | 317 => 252 | 318 => 254 | 319 => 255 | 320 => 256 | 337 => 257 | 338 => 258 | n => n, fun | 3 => 3 | 9 => 9 | 2 => 2 | 4 => 4 | 171 => 327 | 0 => 0 | 53 => 227 | 37 => 78 | 5 => 5 | 173 => 330 | 212 => 340 | 51 => 301 | 20 => 20 | 213 => 341 | 46 => 326 | 232 => 344 | 233 => 345 | n => n, fun | 17 => 6 | 18 => 7 | 19 => 8 | n => n⟩
theorem Tryz.lays243 : Go.Proofs.Lays.n243 Tryz.prog Tryz.lays243_ren := {
  mixed := by kernel_rfl
  f129 := Tryz.func253.trans (congrArg some (by kernel_rfl))
  f243 := Tryz.func216.trans (congrArg some (by kernel_rfl))
  f246 := Tryz.func234.trans (congrArg some (by kernel_rfl))
  f283 := Tryz.func246.trans (congrArg some (by kernel_rfl))
  f284 := Tryz.func247.trans (congrArg some (by kernel_rfl))
  f285 := Tryz.func248.trans (congrArg some (by kernel_rfl))
  f286 := Tryz.func249.trans (congrArg some (by kernel_rfl))
  f317 := Tryz.func252.trans (congrArg some (by kernel_rfl))
  f318 := Tryz.func254.trans (congrArg some (by kernel_rfl))
  f319 := Tryz.func255.trans (congrArg some (by kernel_rfl))
  f320 := Tryz.func256.trans (congrArg some (by kernel_rfl))
  f337 := Tryz.func257.trans (congrArg some (by kernel_rfl))
  f338 := Tryz.func258.trans (congrArg some (by kernel_rfl))
  t0 := Tryz.underlying0
  a0 := Tryz.isAgg0
  z0 := Tryz.sizeOf0
  v0 := Tryz.zeroValue0
  t2 := Tryz.underlying2
  a2 := Tryz.isAgg2
  z2 := Tryz.sizeOf2
  v2 := Tryz.zeroValue2
  t3 := Tryz.underlying3
  a3 := Tryz.isAgg3
  z3 := Tryz.sizeOf3
  v3 := Tryz.zeroValue3
  t4 := Tryz.underlying4
  a4 := Tryz.isAgg4
  z4 := Tryz.sizeOf4
  v4 := Tryz.zeroValue4
  t5 := Tryz.underlying5
  a5 := Tryz.isAgg5
  z5 := Tryz.sizeOf5
  v5 := Tryz.zeroValue5
  t9 := Tryz.underlying9
  a9 := Tryz.isAgg9
  z9 := Tryz.sizeOf9
  v9 := Tryz.zeroValue9
  t20 := Tryz.underlying20
  a20 := Tryz.isAgg20
  z20 := Tryz.sizeOf20
  v20 := Tryz.zeroValue20
  t37 := Tryz.underlying78
  a37 := Tryz.isAgg78
  z37 := Tryz.sizeOf78
  v37 := Tryz.zeroValue78
  t46 := Tryz.underlying326
  a46 := Tryz.isAgg326
  z46 := Tryz.sizeOf326
  v46 := Tryz.zeroValue326
  t51 := Tryz.underlying301
  a51 := Tryz.isAgg301
  z51 := Tryz.sizeOf301
  v51 := Tryz.zeroValue301
  t53 := Tryz.underlying227
  a53 := Tryz.isAgg227
  z53 := Tryz.sizeOf227
  v53 := Tryz.zeroValue227
  t171 := Tryz.underlying327
  a171 := Tryz.isAgg327
  z171 := Tryz.sizeOf327
  v171 := Tryz.zeroValue327
  t173 := Tryz.underlying330
  a173 := Tryz.isAgg330
  z173 := Tryz.sizeOf330
  v173 := Tryz.zeroValue330
  t212 := Tryz.underlying340
  a212 := Tryz.isAgg340
  z212 := Tryz.sizeOf340
  v212 := Tryz.zeroValue340
  t213 := Tryz.underlying341
  a213 := Tryz.isAgg341
  z213 := Tryz.sizeOf341
  t232 := Tryz.underlying344
  a232 := Tryz.isAgg344
  z232 := Tryz.sizeOf344
  v232 := Tryz.zeroValue344
  t233 := Tryz.underlying345
  a233 := Tryz.isAgg345
  z233 := Tryz.sizeOf345
  v233 := Tryz.zeroValue345
  g17 := by kernel_rfl
  g18 := by kernel_rfl
  g19 := by kernel_rfl }
open Go.RowKit Go.Sort Go.Lib in
/-- THE ROAD WITHOUT THE TABLE: 0 <= i < 100. (LAID: no walk: one application.) -/
theorem Tryz.internal_strconv_Itoa_small (i : Nat) (hi : i < 100) (w : World) :
    Calls Tryz.prog 216 #[.int .i64 i] w fun e w' => e = .returned (.string ⟨(Lib.decDigits i).toArray⟩) ∧ w' = w := Any.internal_strconv_Itoa_small Tryz.lays243 i hi w
def Tryz.laysM171_ren : Go.Shelf.Ren := ⟨fun | 171 => 147 | 243 => 216 | 246 => 234 | 283 => 246 | 284 => 247 | 285 => 248 | 286 => 249 | 129 => 253 | 317 => 252 | 318 => 254 | 319 => 255 | 320 => 256 | 337 => 257 | 338 => 258 | n => n, fun | 3 => 3 | 9 => 9 | 2 => 2 | 4 => 4 | 171 => 327 | 0 => 0 | 53 => 227 | 37 => 78 | 5 => 5 | 173 => 330 | 212 => 340 | 51 => 301 | 20 => 20 | 213 => 341 | 46 => 326 | 232 => 344 | 233 => 345 | n => n, fun | 17 => 6 | 18 => 7 | 19 => 8 | n => n⟩
theorem Tryz.laysM171 : Go.Proofs.LaysM.n171 Tryz.prog Tryz.laysM171_ren := {
  mixed := by kernel_rfl
  f129 := Tryz.func253.trans (congrArg some (by kernel_rfl))
  f171 := Tryz.func147.trans (congrArg some (by kernel_rfl))
  f243 := Tryz.func216.trans (congrArg some (by kernel_rfl))
  f246 := Tryz.func234.trans (congrArg some (by kernel_rfl))
  f283 := Tryz.func246.trans (congrArg some (by kernel_rfl))
  f284 := Tryz.func247.trans (congrArg some (by kernel_rfl))
  f285 := Tryz.func248.trans (congrArg some (by kernel_rfl))
  f286 := Tryz.func249.trans (congrArg some (by kernel_rfl))
  f317 := Tryz.func252.trans (congrArg some (by kernel_rfl))
  f318 := Tryz.func254.trans (congrArg some (by kernel_rfl))
  f319 := Tryz.func255.trans (congrArg some (by kernel_rfl))
  f320 := Tryz.func256.trans (congrArg some (by kernel_rfl))
  f337 := Tryz.func257.trans (congrArg some (by kernel_rfl))
  f338 := Tryz.func258.trans (congrArg some (by kernel_rfl))
  t0 := Tryz.underlying0
  a0 := Tryz.isAgg0
  z0 := Tryz.sizeOf0
  v0 := Tryz.zeroValue0
  t2 := Tryz.underlying2
  a2 := Tryz.isAgg2
  z2 := Tryz.sizeOf2
  v2 := Tryz.zeroValue2
  t3 := Tryz.underlying3
  a3 := Tryz.isAgg3
  z3 := Tryz.sizeOf3
  v3 := Tryz.zeroValue3
  t4 := Tryz.underlying4
  a4 := Tryz.isAgg4
  z4 := Tryz.sizeOf4
  v4 := Tryz.zeroValue4
  t5 := Tryz.underlying5
  a5 := Tryz.isAgg5
  z5 := Tryz.sizeOf5
  v5 := Tryz.zeroValue5
  t9 := Tryz.underlying9
  a9 := Tryz.isAgg9
  z9 := Tryz.sizeOf9
  v9 := Tryz.zeroValue9
  t20 := Tryz.underlying20
  a20 := Tryz.isAgg20
  z20 := Tryz.sizeOf20
  v20 := Tryz.zeroValue20
  t37 := Tryz.underlying78
  a37 := Tryz.isAgg78
  z37 := Tryz.sizeOf78
  v37 := Tryz.zeroValue78
  t46 := Tryz.underlying326
  a46 := Tryz.isAgg326
  z46 := Tryz.sizeOf326
  v46 := Tryz.zeroValue326
  t51 := Tryz.underlying301
  a51 := Tryz.isAgg301
  z51 := Tryz.sizeOf301
  v51 := Tryz.zeroValue301
  t53 := Tryz.underlying227
  a53 := Tryz.isAgg227
  z53 := Tryz.sizeOf227
  v53 := Tryz.zeroValue227
  t171 := Tryz.underlying327
  a171 := Tryz.isAgg327
  z171 := Tryz.sizeOf327
  v171 := Tryz.zeroValue327
  t173 := Tryz.underlying330
  a173 := Tryz.isAgg330
  z173 := Tryz.sizeOf330
  v173 := Tryz.zeroValue330
  t212 := Tryz.underlying340
  a212 := Tryz.isAgg340
  z212 := Tryz.sizeOf340
  v212 := Tryz.zeroValue340
  t213 := Tryz.underlying341
  a213 := Tryz.isAgg341
  z213 := Tryz.sizeOf341
  t232 := Tryz.underlying344
  a232 := Tryz.isAgg344
  z232 := Tryz.sizeOf344
  v232 := Tryz.zeroValue344
  t233 := Tryz.underlying345
  a233 := Tryz.isAgg345
  z233 := Tryz.sizeOf345
  v233 := Tryz.zeroValue345
  g17 := by kernel_rfl
  g18 := by kernel_rfl
  g19 := by kernel_rfl
  i0 := by kernel_rfl
  i2 := by kernel_rfl
  i3 := by kernel_rfl
  i4 := by kernel_rfl
  i5 := by kernel_rfl
  i9 := by kernel_rfl
  i20 := by kernel_rfl
  i37 := by kernel_rfl
  i46 := by kernel_rfl
  i51 := by kernel_rfl
  i53 := by kernel_rfl
  i171 := by kernel_rfl
  i173 := by kernel_rfl
  i212 := by kernel_rfl
  i232 := by kernel_rfl
  i233 := by kernel_rfl
  m17 := by kernel_rfl
  m18 := by kernel_rfl
  m19 := by kernel_rfl }
open Go.RowKit Go.Sort Go.Lib in
/-- strconv.Itoa: "Itoa is equivalent to FormatInt(int64(i), 10).": i's DECIMAL NUMERAL ('Lib.itoa': a '-' where i is negative, then the digits), FOR EVERY int. The world behind the call: the world before it, new blocks behind the heap (the library's 'var a [24]byte'), draws. (LAID: no walk: one application.) -/
theorem Tryz.strconv_Itoa (n : Int) (h0 : -9223372036854775808 ≤ n) (h1 : n ≤ 9223372036854775807) (w : World) (htab : Lib.TabIs Tryz.prog w "internal/strconv.uint64pow10" .u64 Lib.pow10Tab) :
    Calls Tryz.prog 147 #[.int .i64 n] w fun e w' => e = .returned (.string ⟨(Lib.itoa n).toArray⟩) ∧ ∃ k os, w' = grow (w.drewN k) os := Any.strconv_Itoa Tryz.laysM171 n h0 h1 w htab
def Tryz.lays171_ren : Go.Shelf.Ren := ⟨fun | 171 => 147 | 243 => 216 | 246 => 234 | 283 => 246 | 284 => 247 | 285 => 248 | 286 => 249 | 129 => 253 | 317 => 252 | 318 => 254 | 319 => 255 | 320 => 256 | 337 => 257 | 338 => 258 | n => n, fun | 3 => 3 | 9 => 9 | 2 => 2 | 4 => 4 | 171 => 327 | 0 => 0 | 53 => 227 | 37 => 78 | 5 => 5 | 173 => 330 | 212 => 340 | 51 => 301 | 20 => 20 | 213 => 341 | 46 => 326 | 232 => 344 | 233 => 345 | n => n, fun | 17 => 6 | 18 => 7 | 19 => 8 | n => n⟩
theorem Tryz.lays171 : Go.Proofs.Lays.n171 Tryz.prog Tryz.lays171_ren := {
  mixed := by kernel_rfl
  f129 := Tryz.func253.trans (congrArg some (by kernel_rfl))
  f171 := Tryz.func147.trans (congrArg some (by kernel_rfl))
  f243 := Tryz.func216.trans (congrArg some (by kernel_rfl))
  f246 := Tryz.func234.trans (congrArg some (by kernel_rfl))
  f283 := Tryz.func246.trans (congrArg some (by kernel_rfl))
  f284 := Tryz.func247.trans (congrArg some (by kernel_rfl))
  f285 := Tryz.func248.trans (congrArg some (by kernel_rfl))
  f286 := Tryz.func249.trans (congrArg some (by kernel_rfl))
  f317 := Tryz.func252.trans (congrArg some (by kernel_rfl))
  f318 := Tryz.func254.trans (congrArg some (by kernel_rfl))
  f319 := Tryz.func255.trans (congrArg some (by kernel_rfl))
  f320 := Tryz.func256.trans (congrArg some (by kernel_rfl))
  f337 := Tryz.func257.trans (congrArg some (by kernel_rfl))
  f338 := Tryz.func258.trans (congrArg some (by kernel_rfl))
  t0 := Tryz.underlying0
  a0 := Tryz.isAgg0
  z0 := Tryz.sizeOf0
  v0 := Tryz.zeroValue0
  t2 := Tryz.underlying2
  a2 := Tryz.isAgg2
  z2 := Tryz.sizeOf2
  v2 := Tryz.zeroValue2
  t3 := Tryz.underlying3
  a3 := Tryz.isAgg3
  z3 := Tryz.sizeOf3
  v3 := Tryz.zeroValue3
  t4 := Tryz.underlying4
  a4 := Tryz.isAgg4
  z4 := Tryz.sizeOf4
  v4 := Tryz.zeroValue4
  t5 := Tryz.underlying5
  a5 := Tryz.isAgg5
  z5 := Tryz.sizeOf5
  v5 := Tryz.zeroValue5
  t9 := Tryz.underlying9
  a9 := Tryz.isAgg9
  z9 := Tryz.sizeOf9
  v9 := Tryz.zeroValue9
  t20 := Tryz.underlying20
  a20 := Tryz.isAgg20
  z20 := Tryz.sizeOf20
  v20 := Tryz.zeroValue20
  t37 := Tryz.underlying78
  a37 := Tryz.isAgg78
  z37 := Tryz.sizeOf78
  v37 := Tryz.zeroValue78
  t46 := Tryz.underlying326
  a46 := Tryz.isAgg326
  z46 := Tryz.sizeOf326
  v46 := Tryz.zeroValue326
  t51 := Tryz.underlying301
  a51 := Tryz.isAgg301
  z51 := Tryz.sizeOf301
  v51 := Tryz.zeroValue301
  t53 := Tryz.underlying227
  a53 := Tryz.isAgg227
  z53 := Tryz.sizeOf227
  v53 := Tryz.zeroValue227
  t171 := Tryz.underlying327
  a171 := Tryz.isAgg327
  z171 := Tryz.sizeOf327
  v171 := Tryz.zeroValue327
  t173 := Tryz.underlying330
  a173 := Tryz.isAgg330
  z173 := Tryz.sizeOf330
  v173 := Tryz.zeroValue330
  t212 := Tryz.underlying340
  a212 := Tryz.isAgg340
  z212 := Tryz.sizeOf340
  v212 := Tryz.zeroValue340
  t213 := Tryz.underlying341
  a213 := Tryz.isAgg341
  z213 := Tryz.sizeOf341
  t232 := Tryz.underlying344
  a232 := Tryz.isAgg344
  z232 := Tryz.sizeOf344
  v232 := Tryz.zeroValue344
  t233 := Tryz.underlying345
  a233 := Tryz.isAgg345
  z233 := Tryz.sizeOf345
  v233 := Tryz.zeroValue345
  g17 := by kernel_rfl
  g18 := by kernel_rfl
  g19 := by kernel_rfl }
open Go.RowKit Go.Sort Go.Lib in
/-- THE ROAD WITHOUT THE TABLE: 0 <= i < 100: NO PREMISE ON THE WORLD, AND THE WORLD IS AS IT WAS: a row that keeps its argument in that range need list no table ('laid = []'). (LAID: no walk: one application.) -/
theorem Tryz.strconv_Itoa_small (i : Nat) (hi : i < 100) (w : World) :
    Calls Tryz.prog 147 #[.int .i64 i] w fun e w' => e = .returned (.string ⟨(Lib.decDigits i).toArray⟩) ∧ w' = w := Any.strconv_Itoa_small Tryz.lays171 i hi w
def Tryz.lays217_ren : Go.Shelf.Ren := ⟨fun | 217 => 241 | 266 => 250 | n => n, fun | 9 => 9 | 5 => 5 | 3 => 3 | n => n, fun | n => n⟩
theorem Tryz.lays217 : Go.Proofs.Lays.n217 Tryz.prog Tryz.lays217_ren := {
  mixed := by kernel_rfl
  f217 := Tryz.func241.trans (congrArg some (by kernel_rfl))
  f266 := Tryz.func250.trans (congrArg some (by kernel_rfl))
  t3 := Tryz.underlying3
  a3 := Tryz.isAgg3
  z3 := Tryz.sizeOf3
  v3 := Tryz.zeroValue3
  t5 := Tryz.underlying5
  a5 := Tryz.isAgg5
  z5 := Tryz.sizeOf5
  v5 := Tryz.zeroValue5
  t9 := Tryz.underlying9
  a9 := Tryz.isAgg9
  z9 := Tryz.sizeOf9
  v9 := Tryz.zeroValue9 }
open Go.RowKit Go.Lib in
/-- internal/stringslite.IndexByte (what strings.IndexByte calls): IT RETURNS 'Lib.indexByte s c'; the world is as it was. (LAID: no walk: one application.) -/
theorem Tryz.stringslite_IndexByte (s : ByteArray) (c : Int) (w : World) :
    Calls Tryz.prog 241 #[.string s, .int .u8 c] w fun e w' => e = .returned (.int .i64 (Lib.indexByte s.data.toList c.toNat.toUInt8)) ∧ w' = w := Any.stringslite_IndexByte Tryz.lays217 s c w
def Tryz.lays224_ren : Go.Shelf.Ren := ⟨fun | 224 => 243 | n => n, fun | 3 => 3 | n => n, fun | n => n⟩
theorem Tryz.lays224 : Go.Proofs.Lays.n224 Tryz.prog Tryz.lays224_ren := {
  mixed := by kernel_rfl
  f224 := Tryz.func243.trans (congrArg some (by kernel_rfl))
  t3 := Tryz.underlying3
  a3 := Tryz.isAgg3
  z3 := Tryz.sizeOf3
  v3 := Tryz.zeroValue3 }
open Go.RowKit Go.Lib in
/-- internal/bytealg.Cutover: "Cutover reports the number of failures of IndexByte we should tolerate before switching over to Index. n is the number of bytes processed so far.": on amd64: (n + 16) / 8. (LAID: no walk: one application.) -/
theorem Tryz.bytealg_Cutover (n : Int) (h0 : 0 ≤ n) (h1 : n < 4611686018427387904) (w : World) :
    Calls Tryz.prog 243 #[.int .i64 n] w fun e w' => e = .returned (.int .i64 ((n + 16) / 8)) ∧ w' = w := Any.bytealg_Cutover Tryz.lays224 n h0 h1 w
def Tryz.lays314_ren : Go.Shelf.Ren := ⟨fun | 314 => 251 | n => n, fun | 9 => 9 | 51 => 301 | 3 => 3 | 4 => 4 | 5 => 5 | 46 => 326 | n => n, fun | n => n⟩
theorem Tryz.lays314 : Go.Proofs.Lays.n314 Tryz.prog Tryz.lays314_ren := {
  mixed := by kernel_rfl
  f314 := Tryz.func251.trans (congrArg some (by kernel_rfl))
  t3 := Tryz.underlying3
  a3 := Tryz.isAgg3
  z3 := Tryz.sizeOf3
  v3 := Tryz.zeroValue3
  t4 := Tryz.underlying4
  a4 := Tryz.isAgg4
  z4 := Tryz.sizeOf4
  v4 := Tryz.zeroValue4
  t5 := Tryz.underlying5
  a5 := Tryz.isAgg5
  z5 := Tryz.sizeOf5
  v5 := Tryz.zeroValue5
  t9 := Tryz.underlying9
  a9 := Tryz.isAgg9
  z9 := Tryz.sizeOf9
  v9 := Tryz.zeroValue9
  t46 := Tryz.underlying326
  a46 := Tryz.isAgg326
  z46 := Tryz.sizeOf326
  v46 := Tryz.zeroValue326
  t51 := Tryz.underlying301
  a51 := Tryz.isAgg301
  z51 := Tryz.sizeOf301
  v51 := Tryz.zeroValue301 }
open Go.RowKit Go.Lib in
/-- hashStr: "returns the hash and the appropriate multiplicative factor for use in Rabin-Karp algorithm": THE HASH OF ALL OF sep, AND 16777619 ^ len(sep), both in uint32. (LAID: no walk: one application.) -/
theorem Tryz.bytealg_hashStr (sep : ByteArray) (hs : sep.size < 4294967281) (w : World) :
    Calls Tryz.prog 251 #[.string sep] w fun e w' => e = .returned (.tuple #[.int .u32 (RK.H sep.data.toList % 4294967296), .int .u32 (16777619 ^ sep.size % 4294967296)]) ∧ w' = w := Any.bytealg_hashStr Tryz.lays314 sep hs w
def Tryz.lays267_ren : Go.Shelf.Ren := ⟨fun | 267 => 244 | 314 => 251 | n => n, fun | 9 => 9 | 3 => 3 | 146 => 337 | 51 => 301 | 4 => 4 | 5 => 5 | 46 => 326 | n => n, fun | n => n⟩
theorem Tryz.lays267 : Go.Proofs.Lays.n267 Tryz.prog Tryz.lays267_ren := {
  mixed := by kernel_rfl
  f267 := Tryz.func244.trans (congrArg some (by kernel_rfl))
  f314 := Tryz.func251.trans (congrArg some (by kernel_rfl))
  t3 := Tryz.underlying3
  a3 := Tryz.isAgg3
  z3 := Tryz.sizeOf3
  v3 := Tryz.zeroValue3
  t4 := Tryz.underlying4
  a4 := Tryz.isAgg4
  z4 := Tryz.sizeOf4
  v4 := Tryz.zeroValue4
  t5 := Tryz.underlying5
  a5 := Tryz.isAgg5
  z5 := Tryz.sizeOf5
  v5 := Tryz.zeroValue5
  t9 := Tryz.underlying9
  a9 := Tryz.isAgg9
  z9 := Tryz.sizeOf9
  v9 := Tryz.zeroValue9
  t46 := Tryz.underlying326
  a46 := Tryz.isAgg326
  z46 := Tryz.sizeOf326
  v46 := Tryz.zeroValue326
  t51 := Tryz.underlying301
  a51 := Tryz.isAgg301
  z51 := Tryz.sizeOf301
  v51 := Tryz.zeroValue301
  t146 := Tryz.underlying337
  a146 := Tryz.isAgg337
  z146 := Tryz.sizeOf337
  v146 := Tryz.zeroValue337 }
open Go.RowKit Go.Lib in
theorem Tryz.bytealg_IndexRabinKarp (s sep : ByteArray) (h1 : 1 ≤ sep.size) (h2 : sep.size ≤ s.size) (hs : s.size < 4294967281) (w : World) :
    Calls Tryz.prog 244 #[.string s, .string sep] w fun e w' => e = .returned (.int .i64 (Lib.index s.data.toList sep.data.toList)) ∧ w' = w := Any.bytealg_IndexRabinKarp Tryz.lays267 s sep h1 h2 hs w
def Tryz.lays219_ren : Go.Shelf.Ren := ⟨fun | 219 => 227 | 217 => 241 | 225 => 242 | 224 => 243 | 267 => 244 | 266 => 250 | 314 => 251 | n => n, fun | 9 => 9 | 3 => 3 | 4 => 4 | 5 => 5 | 46 => 326 | 146 => 337 | 51 => 301 | n => n, fun | 1 => 3 | n => n⟩
theorem Tryz.lays219 : Go.Proofs.Lays.n219 Tryz.prog Tryz.lays219_ren := {
  mixed := by kernel_rfl
  f217 := Tryz.func241.trans (congrArg some (by kernel_rfl))
  f219 := Tryz.func227.trans (congrArg some (by kernel_rfl))
  f224 := Tryz.func243.trans (congrArg some (by kernel_rfl))
  f225 := Tryz.func242.trans (congrArg some (by kernel_rfl))
  f266 := Tryz.func250.trans (congrArg some (by kernel_rfl))
  f267 := Tryz.func244.trans (congrArg some (by kernel_rfl))
  f314 := Tryz.func251.trans (congrArg some (by kernel_rfl))
  t3 := Tryz.underlying3
  a3 := Tryz.isAgg3
  z3 := Tryz.sizeOf3
  v3 := Tryz.zeroValue3
  t4 := Tryz.underlying4
  a4 := Tryz.isAgg4
  z4 := Tryz.sizeOf4
  v4 := Tryz.zeroValue4
  t5 := Tryz.underlying5
  a5 := Tryz.isAgg5
  z5 := Tryz.sizeOf5
  v5 := Tryz.zeroValue5
  t9 := Tryz.underlying9
  a9 := Tryz.isAgg9
  z9 := Tryz.sizeOf9
  v9 := Tryz.zeroValue9
  t46 := Tryz.underlying326
  a46 := Tryz.isAgg326
  z46 := Tryz.sizeOf326
  v46 := Tryz.zeroValue326
  t51 := Tryz.underlying301
  a51 := Tryz.isAgg301
  z51 := Tryz.sizeOf301
  v51 := Tryz.zeroValue301
  t146 := Tryz.underlying337
  a146 := Tryz.isAgg337
  z146 := Tryz.sizeOf337
  v146 := Tryz.zeroValue337
  g1 := by kernel_rfl }
open Go.RowKit Go.Lib in
/-- internal/stringslite.Index (what strings.Index calls) AT A substr OF ONE BYTE c: IT RETURNS 'Lib.indexByte s c'; the world is as it was. (LAID: no walk: one application.) -/
theorem Tryz.stringslite_Index_one (s : ByteArray) (c : UInt8) (w : World) :
    Calls Tryz.prog 227 #[.string s, .string ⟨#[c]⟩] w fun e w' => e = .returned (.int .i64 (Lib.indexByte s.data.toList c)) ∧ w' = w := Any.stringslite_Index_one Tryz.lays219 s c w
open Go.RowKit Go.Lib in
/-- internal/stringslite.Index (what strings.Index calls) AT A substr OF WHATEVER LENGTH: IT RETURNS 'Lib.index s substr'; the world is as it was. 'm': what internal/bytealg.MaxLen holds: whatever. (LAID: no walk: one application.) -/
theorem Tryz.stringslite_Index (s sub : ByteArray) (m : Int) (w : World) (hs : s.size < 4294967281) (hm : w.cell? ⟨3, 0, none⟩ = some (.int .i64 m)) :
    Calls Tryz.prog 227 #[.string s, .string sub] w fun e w' => e = .returned (.int .i64 (Lib.index s.data.toList sub.data.toList)) ∧ w' = w := Any.stringslite_Index Tryz.lays219 s sub m w hs hm
def Tryz.lays143_ren : Go.Shelf.Ren := ⟨fun | 143 => 161 | 219 => 227 | 217 => 241 | 225 => 242 | 224 => 243 | 267 => 244 | 266 => 250 | 314 => 251 | n => n, fun | 9 => 9 | 3 => 3 | 4 => 4 | 5 => 5 | 46 => 326 | 146 => 337 | 51 => 301 | n => n, fun | 1 => 3 | n => n⟩
theorem Tryz.lays143 : Go.Proofs.Lays.n143 Tryz.prog Tryz.lays143_ren := {
  mixed := by kernel_rfl
  f143 := Tryz.func161.trans (congrArg some (by kernel_rfl))
  f217 := Tryz.func241.trans (congrArg some (by kernel_rfl))
  f219 := Tryz.func227.trans (congrArg some (by kernel_rfl))
  f224 := Tryz.func243.trans (congrArg some (by kernel_rfl))
  f225 := Tryz.func242.trans (congrArg some (by kernel_rfl))
  f266 := Tryz.func250.trans (congrArg some (by kernel_rfl))
  f267 := Tryz.func244.trans (congrArg some (by kernel_rfl))
  f314 := Tryz.func251.trans (congrArg some (by kernel_rfl))
  t3 := Tryz.underlying3
  a3 := Tryz.isAgg3
  z3 := Tryz.sizeOf3
  v3 := Tryz.zeroValue3
  t4 := Tryz.underlying4
  a4 := Tryz.isAgg4
  z4 := Tryz.sizeOf4
  v4 := Tryz.zeroValue4
  t5 := Tryz.underlying5
  a5 := Tryz.isAgg5
  z5 := Tryz.sizeOf5
  v5 := Tryz.zeroValue5
  t9 := Tryz.underlying9
  a9 := Tryz.isAgg9
  z9 := Tryz.sizeOf9
  v9 := Tryz.zeroValue9
  t46 := Tryz.underlying326
  a46 := Tryz.isAgg326
  z46 := Tryz.sizeOf326
  v46 := Tryz.zeroValue326
  t51 := Tryz.underlying301
  a51 := Tryz.isAgg301
  z51 := Tryz.sizeOf301
  v51 := Tryz.zeroValue301
  t146 := Tryz.underlying337
  a146 := Tryz.isAgg337
  z146 := Tryz.sizeOf337
  v146 := Tryz.zeroValue337
  g1 := by kernel_rfl }
open Go.RowKit Go.Lib in
/-- strings.Index: "Index returns the index of the first instance of substr in s, or -1 if substr is not present in s.": AT A substr OF ONE BYTE c: IT RETURNS 'Lib.indexByte s c'; the world is as it was. (LAID: no walk: one application.) -/
theorem Tryz.strings_Index_one (s : ByteArray) (c : UInt8) (w : World) :
    Calls Tryz.prog 161 #[.string s, .string ⟨#[c]⟩] w fun e w' => e = .returned (.int .i64 (Lib.indexByte s.data.toList c)) ∧ w' = w := Any.strings_Index_one Tryz.lays143 s c w
open Go.RowKit Go.Lib in
/-- strings.Index: "Index returns the index of the first instance of substr in s, or -1 if substr is not present in s.": IT RETURNS 'Lib.index s substr'; the world is as it was. (LAID: no walk: one application.) -/
theorem Tryz.strings_Index (s sub : ByteArray) (m : Int) (w : World) (hs : s.size < 4294967281) (hm : w.cell? ⟨3, 0, none⟩ = some (.int .i64 m)) :
    Calls Tryz.prog 161 #[.string s, .string sub] w fun e w' => e = .returned (.int .i64 (Lib.index s.data.toList sub.data.toList)) ∧ w' = w := Any.strings_Index Tryz.lays143 s sub m w hs hm
def Tryz.lays144_ren : Go.Shelf.Ren := ⟨fun | 144 => 107 | 143 => 161 | 219 => 227 | 217 => 241 | 225 => 242 | 224 => 243 | 267 => 244 | 266 => 250 | 314 => 251 | n => n, fun | 9 => 9 | 4 => 4 | 3 => 3 | 5 => 5 | 46 => 326 | 146 => 337 | 51 => 301 | n => n, fun | 1 => 3 | n => n⟩
theorem Tryz.lays144 : Go.Proofs.Lays.n144 Tryz.prog Tryz.lays144_ren := {
  mixed := by kernel_rfl
  f143 := Tryz.func161.trans (congrArg some (by kernel_rfl))
  f144 := Tryz.func107.trans (congrArg some (by kernel_rfl))
  f217 := Tryz.func241.trans (congrArg some (by kernel_rfl))
  f219 := Tryz.func227.trans (congrArg some (by kernel_rfl))
  f224 := Tryz.func243.trans (congrArg some (by kernel_rfl))
  f225 := Tryz.func242.trans (congrArg some (by kernel_rfl))
  f266 := Tryz.func250.trans (congrArg some (by kernel_rfl))
  f267 := Tryz.func244.trans (congrArg some (by kernel_rfl))
  f314 := Tryz.func251.trans (congrArg some (by kernel_rfl))
  t3 := Tryz.underlying3
  a3 := Tryz.isAgg3
  z3 := Tryz.sizeOf3
  v3 := Tryz.zeroValue3
  t4 := Tryz.underlying4
  a4 := Tryz.isAgg4
  z4 := Tryz.sizeOf4
  v4 := Tryz.zeroValue4
  t5 := Tryz.underlying5
  a5 := Tryz.isAgg5
  z5 := Tryz.sizeOf5
  v5 := Tryz.zeroValue5
  t9 := Tryz.underlying9
  a9 := Tryz.isAgg9
  z9 := Tryz.sizeOf9
  v9 := Tryz.zeroValue9
  t46 := Tryz.underlying326
  a46 := Tryz.isAgg326
  z46 := Tryz.sizeOf326
  v46 := Tryz.zeroValue326
  t51 := Tryz.underlying301
  a51 := Tryz.isAgg301
  z51 := Tryz.sizeOf301
  v51 := Tryz.zeroValue301
  t146 := Tryz.underlying337
  a146 := Tryz.isAgg337
  z146 := Tryz.sizeOf337
  v146 := Tryz.zeroValue337
  g1 := by kernel_rfl }
open Go.RowKit Go.Lib in
/-- strings.Contains: "Contains reports whether substr is within s.": AT A substr OF ONE BYTE c: IT RETURNS 'decide (0 ≤ Lib.indexByte s c)'; the world is as it was. (LAID: no walk: one application.) -/
theorem Tryz.strings_Contains_one (s : ByteArray) (c : UInt8) (w : World) :
    Calls Tryz.prog 107 #[.string s, .string ⟨#[c]⟩] w fun e w' => e = .returned (.bool (decide (0 ≤ Lib.indexByte s.data.toList c))) ∧ w' = w := Any.strings_Contains_one Tryz.lays144 s c w
open Go.RowKit Go.Lib in
/-- strings.Contains: "Contains reports whether substr is within s.": IT RETURNS 'Lib.contains s substr'; the world is as it was. (LAID: no walk: one application.) -/
theorem Tryz.strings_Contains (s sub : ByteArray) (m : Int) (w : World) (hs : s.size < 4294967281) (hm : w.cell? ⟨3, 0, none⟩ = some (.int .i64 m)) :
    Calls Tryz.prog 107 #[.string s, .string sub] w fun e w' => e = .returned (.bool (Lib.contains s.data.toList sub.data.toList)) ∧ w' = w := Any.strings_Contains Tryz.lays144 s sub m w hs hm
def Tryz.lays138_ren : Go.Shelf.Ren := ⟨fun | 138 => 160 | 195 => 224 | 218 => 226 | 143 => 161 | 219 => 227 | 217 => 241 | 225 => 242 | 224 => 243 | 267 => 244 | 266 => 250 | 314 => 251 | n => n, fun | 9 => 9 | 3 => 3 | 4 => 4 | 5 => 5 | 0 => 0 | 46 => 326 | 146 => 337 | 51 => 301 | n => n, fun | 1 => 3 | n => n⟩
theorem Tryz.lays138 : Go.Proofs.Lays.n138 Tryz.prog Tryz.lays138_ren := {
  mixed := by kernel_rfl
  f138 := Tryz.func160.trans (congrArg some (by kernel_rfl))
  f143 := Tryz.func161.trans (congrArg some (by kernel_rfl))
  f195 := Tryz.func224.trans (congrArg some (by kernel_rfl))
  f217 := Tryz.func241.trans (congrArg some (by kernel_rfl))
  f218 := Tryz.func226.trans (congrArg some (by kernel_rfl))
  f219 := Tryz.func227.trans (congrArg some (by kernel_rfl))
  f224 := Tryz.func243.trans (congrArg some (by kernel_rfl))
  f225 := Tryz.func242.trans (congrArg some (by kernel_rfl))
  f266 := Tryz.func250.trans (congrArg some (by kernel_rfl))
  f267 := Tryz.func244.trans (congrArg some (by kernel_rfl))
  f314 := Tryz.func251.trans (congrArg some (by kernel_rfl))
  t0 := Tryz.underlying0
  a0 := Tryz.isAgg0
  z0 := Tryz.sizeOf0
  v0 := Tryz.zeroValue0
  t3 := Tryz.underlying3
  a3 := Tryz.isAgg3
  z3 := Tryz.sizeOf3
  v3 := Tryz.zeroValue3
  t4 := Tryz.underlying4
  a4 := Tryz.isAgg4
  z4 := Tryz.sizeOf4
  v4 := Tryz.zeroValue4
  t5 := Tryz.underlying5
  a5 := Tryz.isAgg5
  z5 := Tryz.sizeOf5
  v5 := Tryz.zeroValue5
  t9 := Tryz.underlying9
  a9 := Tryz.isAgg9
  z9 := Tryz.sizeOf9
  v9 := Tryz.zeroValue9
  t46 := Tryz.underlying326
  a46 := Tryz.isAgg326
  z46 := Tryz.sizeOf326
  v46 := Tryz.zeroValue326
  t51 := Tryz.underlying301
  a51 := Tryz.isAgg301
  z51 := Tryz.sizeOf301
  v51 := Tryz.zeroValue301
  t146 := Tryz.underlying337
  a146 := Tryz.isAgg337
  z146 := Tryz.sizeOf337
  v146 := Tryz.zeroValue337
  g1 := by kernel_rfl }
open Go.RowKit Go.Lib in
/-- strings.Count AT A substr OF ONE BYTE ('hp'): "Count counts the number of non-overlapping instances of substr in s.": IT RETURNS 'Lib.countByte s (that byte)'; the world is as it was. ✋ NO CONTRACT HERE YET at an empty substr (utf8.RuneCountInString) or at a longer one (a loop over strings.Index). (LAID: no walk: one application.) -/
theorem Tryz.strings_Count_one (s : ByteArray) (c : UInt8) (w : World) :
    Calls Tryz.prog 160 #[.string s, .string ⟨#[c]⟩] w fun e w' => e = .returned (.int .i64 (Lib.countByte s.data.toList c)) ∧ w' = w := Any.strings_Count_one Tryz.lays138 s c w
open Go.RowKit Go.Lib in
/-- strings.Count AT A substr OF TWO BYTES OR MORE: "Count counts the number of non-overlapping instances of substr in s.": IT RETURNS 'Lib.count s substr'; the world is as it was. (LAID: no walk: one application.) -/
theorem Tryz.strings_Count (s sub : ByteArray) (m : Int) (w : World) (hs : s.size < 4294967281) (hm : w.cell? ⟨3, 0, none⟩ = some (.int .i64 m)) (h2 : 2 ≤ sub.size) :
    Calls Tryz.prog 160 #[.string s, .string sub] w fun e w' => e = .returned (.int .i64 (Lib.countB s sub)) ∧ w' = w := Any.strings_Count Tryz.lays138 s sub m w hs hm h2
def Tryz.laysM219_ren : Go.Shelf.Ren := ⟨fun | 219 => 227 | 217 => 241 | 225 => 242 | 224 => 243 | 267 => 244 | 266 => 250 | 314 => 251 | n => n, fun | 9 => 9 | 3 => 3 | 4 => 4 | 5 => 5 | 46 => 326 | 146 => 337 | 51 => 301 | n => n, fun | 1 => 3 | n => n⟩
theorem Tryz.laysM219 : Go.Proofs.LaysM.n219 Tryz.prog Tryz.laysM219_ren := {
  mixed := by kernel_rfl
  f217 := Tryz.func241.trans (congrArg some (by kernel_rfl))
  f219 := Tryz.func227.trans (congrArg some (by kernel_rfl))
  f224 := Tryz.func243.trans (congrArg some (by kernel_rfl))
  f225 := Tryz.func242.trans (congrArg some (by kernel_rfl))
  f266 := Tryz.func250.trans (congrArg some (by kernel_rfl))
  f267 := Tryz.func244.trans (congrArg some (by kernel_rfl))
  f314 := Tryz.func251.trans (congrArg some (by kernel_rfl))
  t3 := Tryz.underlying3
  a3 := Tryz.isAgg3
  z3 := Tryz.sizeOf3
  v3 := Tryz.zeroValue3
  t4 := Tryz.underlying4
  a4 := Tryz.isAgg4
  z4 := Tryz.sizeOf4
  v4 := Tryz.zeroValue4
  t5 := Tryz.underlying5
  a5 := Tryz.isAgg5
  z5 := Tryz.sizeOf5
  v5 := Tryz.zeroValue5
  t9 := Tryz.underlying9
  a9 := Tryz.isAgg9
  z9 := Tryz.sizeOf9
  v9 := Tryz.zeroValue9
  t46 := Tryz.underlying326
  a46 := Tryz.isAgg326
  z46 := Tryz.sizeOf326
  v46 := Tryz.zeroValue326
  t51 := Tryz.underlying301
  a51 := Tryz.isAgg301
  z51 := Tryz.sizeOf301
  v51 := Tryz.zeroValue301
  t146 := Tryz.underlying337
  a146 := Tryz.isAgg337
  z146 := Tryz.sizeOf337
  v146 := Tryz.zeroValue337
  g1 := by kernel_rfl
  i3 := by kernel_rfl
  i4 := by kernel_rfl
  i5 := by kernel_rfl
  i9 := by kernel_rfl
  i46 := by kernel_rfl
  i51 := by kernel_rfl
  i146 := by kernel_rfl
  m1 := by kernel_rfl
  s1_3 := fun w h => Go.Proofs.cell_of_shapedOpen_int (zero := #[.int .i64 0]) (t := 3) h (of_decide_eq_true (by kernel_rfl)) (by kernel_rfl) rfl (by kernel_rfl) (by kernel_rfl) Tryz.underlying3 }
open Go.RowKit Go.Lib in
theorem Tryz.stringslite_Index_shaped (s sub : ByteArray) (w : World) (h : w.ShapedOpen Tryz.prog) (hs : s.size < 4294967281) :
    Calls Tryz.prog 227 #[.string s, .string sub] w fun e w' => e = .returned (.int .i64 (Lib.index s.data.toList sub.data.toList)) ∧ w' = w := Any.stringslite_Index_shaped Tryz.laysM219 s sub w h hs
def Tryz.laysM143_ren : Go.Shelf.Ren := ⟨fun | 143 => 161 | 219 => 227 | 217 => 241 | 225 => 242 | 224 => 243 | 267 => 244 | 266 => 250 | 314 => 251 | n => n, fun | 9 => 9 | 3 => 3 | 4 => 4 | 5 => 5 | 46 => 326 | 146 => 337 | 51 => 301 | n => n, fun | 1 => 3 | n => n⟩
theorem Tryz.laysM143 : Go.Proofs.LaysM.n143 Tryz.prog Tryz.laysM143_ren := {
  mixed := by kernel_rfl
  f143 := Tryz.func161.trans (congrArg some (by kernel_rfl))
  f217 := Tryz.func241.trans (congrArg some (by kernel_rfl))
  f219 := Tryz.func227.trans (congrArg some (by kernel_rfl))
  f224 := Tryz.func243.trans (congrArg some (by kernel_rfl))
  f225 := Tryz.func242.trans (congrArg some (by kernel_rfl))
  f266 := Tryz.func250.trans (congrArg some (by kernel_rfl))
  f267 := Tryz.func244.trans (congrArg some (by kernel_rfl))
  f314 := Tryz.func251.trans (congrArg some (by kernel_rfl))
  t3 := Tryz.underlying3
  a3 := Tryz.isAgg3
  z3 := Tryz.sizeOf3
  v3 := Tryz.zeroValue3
  t4 := Tryz.underlying4
  a4 := Tryz.isAgg4
  z4 := Tryz.sizeOf4
  v4 := Tryz.zeroValue4
  t5 := Tryz.underlying5
  a5 := Tryz.isAgg5
  z5 := Tryz.sizeOf5
  v5 := Tryz.zeroValue5
  t9 := Tryz.underlying9
  a9 := Tryz.isAgg9
  z9 := Tryz.sizeOf9
  v9 := Tryz.zeroValue9
  t46 := Tryz.underlying326
  a46 := Tryz.isAgg326
  z46 := Tryz.sizeOf326
  v46 := Tryz.zeroValue326
  t51 := Tryz.underlying301
  a51 := Tryz.isAgg301
  z51 := Tryz.sizeOf301
  v51 := Tryz.zeroValue301
  t146 := Tryz.underlying337
  a146 := Tryz.isAgg337
  z146 := Tryz.sizeOf337
  v146 := Tryz.zeroValue337
  g1 := by kernel_rfl
  i3 := by kernel_rfl
  i4 := by kernel_rfl
  i5 := by kernel_rfl
  i9 := by kernel_rfl
  i46 := by kernel_rfl
  i51 := by kernel_rfl
  i146 := by kernel_rfl
  m1 := by kernel_rfl
  s1_3 := fun w h => Go.Proofs.cell_of_shapedOpen_int (zero := #[.int .i64 0]) (t := 3) h (of_decide_eq_true (by kernel_rfl)) (by kernel_rfl) rfl (by kernel_rfl) (by kernel_rfl) Tryz.underlying3 }
open Go.RowKit Go.Lib in
theorem Tryz.strings_Index_shaped (s sub : ByteArray) (w : World) (h : w.ShapedOpen Tryz.prog) (hs : s.size < 4294967281) :
    Calls Tryz.prog 161 #[.string s, .string sub] w fun e w' => e = .returned (.int .i64 (Lib.index s.data.toList sub.data.toList)) ∧ w' = w := Any.strings_Index_shaped Tryz.laysM143 s sub w h hs
def Tryz.laysM144_ren : Go.Shelf.Ren := ⟨fun | 144 => 107 | 143 => 161 | 219 => 227 | 217 => 241 | 225 => 242 | 224 => 243 | 267 => 244 | 266 => 250 | 314 => 251 | n => n, fun | 9 => 9 | 4 => 4 | 3 => 3 | 5 => 5 | 46 => 326 | 146 => 337 | 51 => 301 | n => n, fun | 1 => 3 | n => n⟩
theorem Tryz.laysM144 : Go.Proofs.LaysM.n144 Tryz.prog Tryz.laysM144_ren := {
  mixed := by kernel_rfl
  f143 := Tryz.func161.trans (congrArg some (by kernel_rfl))
  f144 := Tryz.func107.trans (congrArg some (by kernel_rfl))
  f217 := Tryz.func241.trans (congrArg some (by kernel_rfl))
  f219 := Tryz.func227.trans (congrArg some (by kernel_rfl))
  f224 := Tryz.func243.trans (congrArg some (by kernel_rfl))
  f225 := Tryz.func242.trans (congrArg some (by kernel_rfl))
  f266 := Tryz.func250.trans (congrArg some (by kernel_rfl))
  f267 := Tryz.func244.trans (congrArg some (by kernel_rfl))
  f314 := Tryz.func251.trans (congrArg some (by kernel_rfl))
  t3 := Tryz.underlying3
  a3 := Tryz.isAgg3
  z3 := Tryz.sizeOf3
  v3 := Tryz.zeroValue3
  t4 := Tryz.underlying4
  a4 := Tryz.isAgg4
  z4 := Tryz.sizeOf4
  v4 := Tryz.zeroValue4
  t5 := Tryz.underlying5
  a5 := Tryz.isAgg5
  z5 := Tryz.sizeOf5
  v5 := Tryz.zeroValue5
  t9 := Tryz.underlying9
  a9 := Tryz.isAgg9
  z9 := Tryz.sizeOf9
  v9 := Tryz.zeroValue9
  t46 := Tryz.underlying326
  a46 := Tryz.isAgg326
  z46 := Tryz.sizeOf326
  v46 := Tryz.zeroValue326
  t51 := Tryz.underlying301
  a51 := Tryz.isAgg301
  z51 := Tryz.sizeOf301
  v51 := Tryz.zeroValue301
  t146 := Tryz.underlying337
  a146 := Tryz.isAgg337
  z146 := Tryz.sizeOf337
  v146 := Tryz.zeroValue337
  g1 := by kernel_rfl
  i3 := by kernel_rfl
  i4 := by kernel_rfl
  i5 := by kernel_rfl
  i9 := by kernel_rfl
  i46 := by kernel_rfl
  i51 := by kernel_rfl
  i146 := by kernel_rfl
  m1 := by kernel_rfl
  s1_3 := fun w h => Go.Proofs.cell_of_shapedOpen_int (zero := #[.int .i64 0]) (t := 3) h (of_decide_eq_true (by kernel_rfl)) (by kernel_rfl) rfl (by kernel_rfl) (by kernel_rfl) Tryz.underlying3 }
open Go.RowKit Go.Lib in
theorem Tryz.strings_Contains_shaped (s sub : ByteArray) (w : World) (h : w.ShapedOpen Tryz.prog) (hs : s.size < 4294967281) :
    Calls Tryz.prog 107 #[.string s, .string sub] w fun e w' => e = .returned (.bool (Lib.contains s.data.toList sub.data.toList)) ∧ w' = w := Any.strings_Contains_shaped Tryz.laysM144 s sub w h hs
def Tryz.laysM138_ren : Go.Shelf.Ren := ⟨fun | 138 => 160 | 195 => 224 | 218 => 226 | 143 => 161 | 219 => 227 | 217 => 241 | 225 => 242 | 224 => 243 | 267 => 244 | 266 => 250 | 314 => 251 | n => n, fun | 9 => 9 | 3 => 3 | 4 => 4 | 5 => 5 | 0 => 0 | 46 => 326 | 146 => 337 | 51 => 301 | n => n, fun | 1 => 3 | n => n⟩
theorem Tryz.laysM138 : Go.Proofs.LaysM.n138 Tryz.prog Tryz.laysM138_ren := {
  mixed := by kernel_rfl
  f138 := Tryz.func160.trans (congrArg some (by kernel_rfl))
  f143 := Tryz.func161.trans (congrArg some (by kernel_rfl))
  f195 := Tryz.func224.trans (congrArg some (by kernel_rfl))
  f217 := Tryz.func241.trans (congrArg some (by kernel_rfl))
  f218 := Tryz.func226.trans (congrArg some (by kernel_rfl))
  f219 := Tryz.func227.trans (congrArg some (by kernel_rfl))
  f224 := Tryz.func243.trans (congrArg some (by kernel_rfl))
  f225 := Tryz.func242.trans (congrArg some (by kernel_rfl))
  f266 := Tryz.func250.trans (congrArg some (by kernel_rfl))
  f267 := Tryz.func244.trans (congrArg some (by kernel_rfl))
  f314 := Tryz.func251.trans (congrArg some (by kernel_rfl))
  t0 := Tryz.underlying0
  a0 := Tryz.isAgg0
  z0 := Tryz.sizeOf0
  v0 := Tryz.zeroValue0
  t3 := Tryz.underlying3
  a3 := Tryz.isAgg3
  z3 := Tryz.sizeOf3
  v3 := Tryz.zeroValue3
  t4 := Tryz.underlying4
  a4 := Tryz.isAgg4
  z4 := Tryz.sizeOf4
  v4 := Tryz.zeroValue4
  t5 := Tryz.underlying5
  a5 := Tryz.isAgg5
  z5 := Tryz.sizeOf5
  v5 := Tryz.zeroValue5
  t9 := Tryz.underlying9
  a9 := Tryz.isAgg9
  z9 := Tryz.sizeOf9
  v9 := Tryz.zeroValue9
  t46 := Tryz.underlying326
  a46 := Tryz.isAgg326
  z46 := Tryz.sizeOf326
  v46 := Tryz.zeroValue326
  t51 := Tryz.underlying301
  a51 := Tryz.isAgg301
  z51 := Tryz.sizeOf301
  v51 := Tryz.zeroValue301
  t146 := Tryz.underlying337
  a146 := Tryz.isAgg337
  z146 := Tryz.sizeOf337
  v146 := Tryz.zeroValue337
  g1 := by kernel_rfl
  i0 := by kernel_rfl
  i3 := by kernel_rfl
  i4 := by kernel_rfl
  i5 := by kernel_rfl
  i9 := by kernel_rfl
  i46 := by kernel_rfl
  i51 := by kernel_rfl
  i146 := by kernel_rfl
  m1 := by kernel_rfl
  s1_3 := fun w h => Go.Proofs.cell_of_shapedOpen_int (zero := #[.int .i64 0]) (t := 3) h (of_decide_eq_true (by kernel_rfl)) (by kernel_rfl) rfl (by kernel_rfl) (by kernel_rfl) Tryz.underlying3 }
open Go.RowKit Go.Lib in
theorem Tryz.strings_Count_shaped (s sub : ByteArray) (w : World) (h : w.ShapedOpen Tryz.prog) (hs : s.size < 4294967281) (h2 : 2 ≤ sub.size) :
    Calls Tryz.prog 160 #[.string s, .string sub] w fun e w' => e = .returned (.int .i64 (Lib.countB s sub)) ∧ w' = w := Any.strings_Count_shaped Tryz.laysM138 s sub w h hs h2
def Tryz.lays206_ren : Go.Shelf.Ren := ⟨fun | 206 => 237 | n => n, fun | 9 => 9 | 4 => 4 | 3 => 3 | n => n, fun | n => n⟩
theorem Tryz.lays206 : Go.Proofs.Lays.n206 Tryz.prog Tryz.lays206_ren := {
  mixed := by kernel_rfl
  f206 := Tryz.func237.trans (congrArg some (by kernel_rfl))
  t3 := Tryz.underlying3
  a3 := Tryz.isAgg3
  z3 := Tryz.sizeOf3
  v3 := Tryz.zeroValue3
  t4 := Tryz.underlying4
  a4 := Tryz.isAgg4
  z4 := Tryz.sizeOf4
  v4 := Tryz.zeroValue4
  t9 := Tryz.underlying9
  a9 := Tryz.isAgg9
  z9 := Tryz.sizeOf9
  v9 := Tryz.zeroValue9 }
open Go.RowKit Go.Lib in
/-- internal/stringslite.HasPrefix (what strings.HasPrefix calls). (LAID: no walk: one application.) -/
theorem Tryz.stringslite_HasPrefix (s p : ByteArray) (w : World) :
    Calls Tryz.prog 237 #[.string s, .string p] w fun e w' => e = .returned (.bool (Lib.hasPrefix s.data.toList p.data.toList)) ∧ w' = w := Any.stringslite_HasPrefix Tryz.lays206 s p w
def Tryz.lays208_ren : Go.Shelf.Ren := ⟨fun | 208 => 220 | 206 => 237 | n => n, fun | 9 => 9 | 4 => 4 | 3 => 3 | n => n, fun | n => n⟩
theorem Tryz.lays208 : Go.Proofs.Lays.n208 Tryz.prog Tryz.lays208_ren := {
  mixed := by kernel_rfl
  f206 := Tryz.func237.trans (congrArg some (by kernel_rfl))
  f208 := Tryz.func220.trans (congrArg some (by kernel_rfl))
  t3 := Tryz.underlying3
  a3 := Tryz.isAgg3
  z3 := Tryz.sizeOf3
  v3 := Tryz.zeroValue3
  t4 := Tryz.underlying4
  a4 := Tryz.isAgg4
  z4 := Tryz.sizeOf4
  v4 := Tryz.zeroValue4
  t9 := Tryz.underlying9
  a9 := Tryz.isAgg9
  z9 := Tryz.sizeOf9
  v9 := Tryz.zeroValue9 }
open Go.RowKit Go.Lib in
/-- internal/stringslite.TrimPrefix (what strings.TrimPrefix calls). (LAID: no walk: one application.) -/
theorem Tryz.stringslite_TrimPrefix (s p : ByteArray) (w : World) :
    Calls Tryz.prog 220 #[.string s, .string p] w fun e w' => e = .returned (.string ⟨(Lib.trimPrefix s.data.toList p.data.toList).toArray⟩) ∧ w' = w := Any.stringslite_TrimPrefix Tryz.lays208 s p w
def Tryz.lays101_ren : Go.Shelf.Ren := ⟨fun | 101 => 154 | 208 => 220 | 206 => 237 | n => n, fun | 9 => 9 | 4 => 4 | 3 => 3 | n => n, fun | n => n⟩
theorem Tryz.lays101 : Go.Proofs.Lays.n101 Tryz.prog Tryz.lays101_ren := {
  mixed := by kernel_rfl
  f101 := Tryz.func154.trans (congrArg some (by kernel_rfl))
  f206 := Tryz.func237.trans (congrArg some (by kernel_rfl))
  f208 := Tryz.func220.trans (congrArg some (by kernel_rfl))
  t3 := Tryz.underlying3
  a3 := Tryz.isAgg3
  z3 := Tryz.sizeOf3
  v3 := Tryz.zeroValue3
  t4 := Tryz.underlying4
  a4 := Tryz.isAgg4
  z4 := Tryz.sizeOf4
  v4 := Tryz.zeroValue4
  t9 := Tryz.underlying9
  a9 := Tryz.isAgg9
  z9 := Tryz.sizeOf9
  v9 := Tryz.zeroValue9 }
open Go.RowKit Go.Lib in
/-- strings.TrimPrefix: "TrimPrefix returns s without the provided leading prefix string. If s doesn't start with prefix, s is returned unchanged.": IT RETURNS 'Lib.trimPrefix s prefix'; the world is as it was. (LAID: no walk: one application.) -/
theorem Tryz.strings_TrimPrefix (s p : ByteArray) (w : World) :
    Calls Tryz.prog 154 #[.string s, .string p] w fun e w' => e = .returned (.string ⟨(Lib.trimPrefix s.data.toList p.data.toList).toArray⟩) ∧ w' = w := Any.strings_TrimPrefix Tryz.lays101 s p w
open Go.RowKit Go.Lib in
/-- strings.Count at whatever sep that is not empty: the two roads under one statement. (LAID: no walk: one application.) -/
theorem Tryz.strings_Count_any (s sep : ByteArray) (m : Int) (w : World) (hs : s.size < 4294967281) (hm : w.cell? ⟨3, 0, none⟩ = some (.int .i64 m)) (h1 : 1 ≤ sep.size) :
    Calls Tryz.prog 160 #[.string s, .string sep] w fun e w' => e = .returned (.int .i64 (Lib.countB s sep)) ∧ w' = w := Any.strings_Count_any Tryz.lays138 s sep m w hs hm h1
def Tryz.lays221_ren : Go.Shelf.Ren := ⟨fun | 221 => 102 | 268 => 159 | 138 => 160 | 143 => 161 | 195 => 224 | 197 => 225 | 218 => 226 | 219 => 227 | 260 => 240 | 217 => 241 | 225 => 242 | 224 => 243 | 267 => 244 | 266 => 250 | 314 => 251 | n => n, fun | 9 => 9 | 3 => 3 | 31 => 81 | 4 => 4 | 0 => 0 | 105 => 306 | 21 => 21 | 5 => 5 | 46 => 326 | 119 => 243 | 139 => 336 | 138 => 335 | 146 => 337 | 51 => 301 | n => n, fun | 1 => 3 | 3 => 4 | 4 => 5 | n => n⟩
theorem Tryz.lays221 : Go.Proofs.Lays.n221 Tryz.prog Tryz.lays221_ren := {
  mixed := by kernel_rfl
  f138 := Tryz.func160.trans (congrArg some (by kernel_rfl))
  f143 := Tryz.func161.trans (congrArg some (by kernel_rfl))
  f195 := Tryz.func224.trans (congrArg some (by kernel_rfl))
  f197 := Tryz.func225.trans (congrArg some (by kernel_rfl))
  f217 := Tryz.func241.trans (congrArg some (by kernel_rfl))
  f218 := Tryz.func226.trans (congrArg some (by kernel_rfl))
  f219 := Tryz.func227.trans (congrArg some (by kernel_rfl))
  f221 := Tryz.func102.trans (congrArg some (by kernel_rfl))
  f224 := Tryz.func243.trans (congrArg some (by kernel_rfl))
  f225 := Tryz.func242.trans (congrArg some (by kernel_rfl))
  f260 := Tryz.func240.trans (congrArg some (by kernel_rfl))
  f266 := Tryz.func250.trans (congrArg some (by kernel_rfl))
  f267 := Tryz.func244.trans (congrArg some (by kernel_rfl))
  f268 := Tryz.func159.trans (congrArg some (by kernel_rfl))
  f314 := Tryz.func251.trans (congrArg some (by kernel_rfl))
  t0 := Tryz.underlying0
  a0 := Tryz.isAgg0
  z0 := Tryz.sizeOf0
  v0 := Tryz.zeroValue0
  t3 := Tryz.underlying3
  a3 := Tryz.isAgg3
  z3 := Tryz.sizeOf3
  v3 := Tryz.zeroValue3
  t4 := Tryz.underlying4
  a4 := Tryz.isAgg4
  z4 := Tryz.sizeOf4
  v4 := Tryz.zeroValue4
  t5 := Tryz.underlying5
  a5 := Tryz.isAgg5
  z5 := Tryz.sizeOf5
  v5 := Tryz.zeroValue5
  t9 := Tryz.underlying9
  a9 := Tryz.isAgg9
  z9 := Tryz.sizeOf9
  v9 := Tryz.zeroValue9
  t21 := Tryz.underlying21
  a21 := Tryz.isAgg21
  z21 := Tryz.sizeOf21
  v21 := Tryz.zeroValue21
  t31 := Tryz.underlying81
  a31 := Tryz.isAgg81
  z31 := Tryz.sizeOf81
  v31 := Tryz.zeroValue81
  t46 := Tryz.underlying326
  a46 := Tryz.isAgg326
  z46 := Tryz.sizeOf326
  v46 := Tryz.zeroValue326
  t51 := Tryz.underlying301
  a51 := Tryz.isAgg301
  z51 := Tryz.sizeOf301
  v51 := Tryz.zeroValue301
  t105 := Tryz.underlying306
  a105 := Tryz.isAgg306
  z105 := Tryz.sizeOf306
  v105 := Tryz.zeroValue306
  t119 := Tryz.underlying243
  a119 := Tryz.isAgg243
  z119 := Tryz.sizeOf243
  t138 := Tryz.underlying335
  a138 := Tryz.isAgg335
  z138 := Tryz.sizeOf335
  v138 := Tryz.zeroValue335
  t139 := Tryz.underlying336
  a139 := Tryz.isAgg336
  z139 := Tryz.sizeOf336
  v139 := Tryz.zeroValue336
  t146 := Tryz.underlying337
  a146 := Tryz.isAgg337
  z146 := Tryz.sizeOf337
  v146 := Tryz.zeroValue337
  g1 := by kernel_rfl
  g3 := by kernel_rfl
  g4 := by kernel_rfl }
open Go.RowKit Go.Lib in
theorem Tryz.strings_genSplit (s sep : ByteArray) (sv : Nat) (n : Int) (N : Nat) (m : Int) (w : World) (hs : s.size < 4294967281) (hm : w.cell? ⟨3, 0, none⟩ = some (.int .i64 m)) (h1 : 1 ≤ sep.size) (hsv : sv ≤ sep.size) (hn0 : n ≠ 0) (hn63 : n ≤ 9223372036854775807) (hN : (N : Int) = min (if n < 0 then (Lib.countB s sep : Int) + 1 else n) ((s.size : Int) + 1)) :
    Calls Tryz.prog 102 #[.string s, .string sep, .int .i64 sv, .int .i64 n] w fun e w' =>
      e = .returned (.slice (some ⟨w.heap.size, 0, none⟩) (Lib.splitB sep sv (N - 1) s).length N) ∧ w' = w.alloc (.cells (Lib.cellsOf (Lib.splitB sep sv (N - 1) s) N) 9) := Any.strings_genSplit Tryz.lays221 (by kernel_rfl) s sep sv n N m w hs hm h1 hsv hn0 hn63 hN
def Tryz.lays146_ren : Go.Shelf.Ren := ⟨fun | 146 => 32 | 221 => 102 | 268 => 159 | 138 => 160 | 143 => 161 | 195 => 224 | 197 => 225 | 218 => 226 | 219 => 227 | 260 => 240 | 217 => 241 | 225 => 242 | 224 => 243 | 267 => 244 | 266 => 250 | 314 => 251 | n => n, fun | 9 => 9 | 31 => 81 | 3 => 3 | 4 => 4 | 0 => 0 | 105 => 306 | 21 => 21 | 5 => 5 | 46 => 326 | 119 => 243 | 139 => 336 | 138 => 335 | 146 => 337 | 51 => 301 | n => n, fun | 1 => 3 | 3 => 4 | 4 => 5 | n => n⟩
theorem Tryz.lays146 : Go.Proofs.Lays.n146 Tryz.prog Tryz.lays146_ren := {
  mixed := by kernel_rfl
  f138 := Tryz.func160.trans (congrArg some (by kernel_rfl))
  f143 := Tryz.func161.trans (congrArg some (by kernel_rfl))
  f146 := Tryz.func32.trans (congrArg some (by kernel_rfl))
  f195 := Tryz.func224.trans (congrArg some (by kernel_rfl))
  f197 := Tryz.func225.trans (congrArg some (by kernel_rfl))
  f217 := Tryz.func241.trans (congrArg some (by kernel_rfl))
  f218 := Tryz.func226.trans (congrArg some (by kernel_rfl))
  f219 := Tryz.func227.trans (congrArg some (by kernel_rfl))
  f221 := Tryz.func102.trans (congrArg some (by kernel_rfl))
  f224 := Tryz.func243.trans (congrArg some (by kernel_rfl))
  f225 := Tryz.func242.trans (congrArg some (by kernel_rfl))
  f260 := Tryz.func240.trans (congrArg some (by kernel_rfl))
  f266 := Tryz.func250.trans (congrArg some (by kernel_rfl))
  f267 := Tryz.func244.trans (congrArg some (by kernel_rfl))
  f268 := Tryz.func159.trans (congrArg some (by kernel_rfl))
  f314 := Tryz.func251.trans (congrArg some (by kernel_rfl))
  t0 := Tryz.underlying0
  a0 := Tryz.isAgg0
  z0 := Tryz.sizeOf0
  v0 := Tryz.zeroValue0
  t3 := Tryz.underlying3
  a3 := Tryz.isAgg3
  z3 := Tryz.sizeOf3
  v3 := Tryz.zeroValue3
  t4 := Tryz.underlying4
  a4 := Tryz.isAgg4
  z4 := Tryz.sizeOf4
  v4 := Tryz.zeroValue4
  t5 := Tryz.underlying5
  a5 := Tryz.isAgg5
  z5 := Tryz.sizeOf5
  v5 := Tryz.zeroValue5
  t9 := Tryz.underlying9
  a9 := Tryz.isAgg9
  z9 := Tryz.sizeOf9
  v9 := Tryz.zeroValue9
  t21 := Tryz.underlying21
  a21 := Tryz.isAgg21
  z21 := Tryz.sizeOf21
  v21 := Tryz.zeroValue21
  t31 := Tryz.underlying81
  a31 := Tryz.isAgg81
  z31 := Tryz.sizeOf81
  v31 := Tryz.zeroValue81
  t46 := Tryz.underlying326
  a46 := Tryz.isAgg326
  z46 := Tryz.sizeOf326
  v46 := Tryz.zeroValue326
  t51 := Tryz.underlying301
  a51 := Tryz.isAgg301
  z51 := Tryz.sizeOf301
  v51 := Tryz.zeroValue301
  t105 := Tryz.underlying306
  a105 := Tryz.isAgg306
  z105 := Tryz.sizeOf306
  v105 := Tryz.zeroValue306
  t119 := Tryz.underlying243
  a119 := Tryz.isAgg243
  z119 := Tryz.sizeOf243
  t138 := Tryz.underlying335
  a138 := Tryz.isAgg335
  z138 := Tryz.sizeOf335
  v138 := Tryz.zeroValue335
  t139 := Tryz.underlying336
  a139 := Tryz.isAgg336
  z139 := Tryz.sizeOf336
  v139 := Tryz.zeroValue336
  t146 := Tryz.underlying337
  a146 := Tryz.isAgg337
  z146 := Tryz.sizeOf337
  v146 := Tryz.zeroValue337
  g1 := by kernel_rfl
  g3 := by kernel_rfl
  g4 := by kernel_rfl }
open Go.RowKit Go.Lib in
/-- strings.Split. (LAID: no walk: one application.) -/
theorem Tryz.strings_Split (s sep : ByteArray) (m : Int) (w : World) (hs : s.size < 4294967281) (hm : w.cell? ⟨3, 0, none⟩ = some (.int .i64 m)) (h1 : 1 ≤ sep.size) :
    Calls Tryz.prog 32 #[.string s, .string sep] w fun e w' =>
      e = .returned (.slice (some ⟨w.heap.size, 0, none⟩) (Lib.countB s sep + 1) (Lib.countB s sep + 1)) ∧ w' = w.alloc (.cells ((Lib.splitB sep 0 (Lib.countB s sep) s).map Value.string).toArray 9) := Any.strings_Split Tryz.lays146 (by kernel_rfl) s sep m w hs hm h1
def Tryz.lays157_ren : Go.Shelf.Ren := ⟨fun | 157 => 91 | 229 => 152 | 199 => 153 | 261 => 219 | 311 => 235 | 312 => 236 | n => n, fun | 9 => 9 | 31 => 81 | 3 => 3 | 5 => 5 | 4 => 4 | 119 => 243 | 0 => 0 | 40 => 245 | 152 => 298 | 21 => 21 | 154 => 300 | 51 => 301 | 141 => 303 | 196 => 317 | 193 => 314 | 198 => 320 | 49 => 318 | 194 => 315 | 201 => 323 | 226 => 332 | 46 => 326 | 227 => 333 | n => n, fun | 0 => 1 | 6 => 2 | n => n⟩
theorem Tryz.lays157 : Go.Proofs.Lays.n157 Tryz.prog Tryz.lays157_ren := {
  mixed := by kernel_rfl
  f157 := Tryz.func91.trans (congrArg some (by kernel_rfl))
  f199 := Tryz.func153.trans (congrArg some (by kernel_rfl))
  f229 := Tryz.func152.trans (congrArg some (by kernel_rfl))
  f261 := Tryz.func219.trans (congrArg some (by kernel_rfl))
  f311 := Tryz.func235.trans (congrArg some (by kernel_rfl))
  f312 := Tryz.func236.trans (congrArg some (by kernel_rfl))
  t0 := Tryz.underlying0
  a0 := Tryz.isAgg0
  z0 := Tryz.sizeOf0
  v0 := Tryz.zeroValue0
  t3 := Tryz.underlying3
  a3 := Tryz.isAgg3
  z3 := Tryz.sizeOf3
  v3 := Tryz.zeroValue3
  t4 := Tryz.underlying4
  a4 := Tryz.isAgg4
  z4 := Tryz.sizeOf4
  v4 := Tryz.zeroValue4
  t5 := Tryz.underlying5
  a5 := Tryz.isAgg5
  z5 := Tryz.sizeOf5
  v5 := Tryz.zeroValue5
  t9 := Tryz.underlying9
  a9 := Tryz.isAgg9
  z9 := Tryz.sizeOf9
  v9 := Tryz.zeroValue9
  t21 := Tryz.underlying21
  a21 := Tryz.isAgg21
  z21 := Tryz.sizeOf21
  v21 := Tryz.zeroValue21
  t31 := Tryz.underlying81
  a31 := Tryz.isAgg81
  z31 := Tryz.sizeOf81
  v31 := Tryz.zeroValue81
  t40 := Tryz.underlying245
  a40 := Tryz.isAgg245
  z40 := Tryz.sizeOf245
  v40 := Tryz.zeroValue245
  t46 := Tryz.underlying326
  a46 := Tryz.isAgg326
  z46 := Tryz.sizeOf326
  v46 := Tryz.zeroValue326
  t49 := Tryz.underlying318
  a49 := Tryz.isAgg318
  z49 := Tryz.sizeOf318
  v49 := Tryz.zeroValue318
  t51 := Tryz.underlying301
  a51 := Tryz.isAgg301
  z51 := Tryz.sizeOf301
  v51 := Tryz.zeroValue301
  t119 := Tryz.underlying243
  a119 := Tryz.isAgg243
  z119 := Tryz.sizeOf243
  t141 := Tryz.underlying303
  a141 := Tryz.isAgg303
  z141 := Tryz.sizeOf303
  v141 := Tryz.zeroValue303
  t152 := Tryz.underlying298
  a152 := Tryz.isAgg298
  z152 := Tryz.sizeOf298
  v152 := Tryz.zeroValue298
  t154 := Tryz.underlying300
  a154 := Tryz.isAgg300
  z154 := Tryz.sizeOf300
  v154 := Tryz.zeroValue300
  t193 := Tryz.underlying314
  a193 := Tryz.isAgg314
  z193 := Tryz.sizeOf314
  v193 := Tryz.zeroValue314
  t194 := Tryz.underlying315
  a194 := Tryz.isAgg315
  z194 := Tryz.sizeOf315
  v194 := Tryz.zeroValue315
  t196 := Tryz.underlying317
  a196 := Tryz.isAgg317
  z196 := Tryz.sizeOf317
  v196 := Tryz.zeroValue317
  t198 := Tryz.underlying320
  a198 := Tryz.isAgg320
  z198 := Tryz.sizeOf320
  v198 := Tryz.zeroValue320
  t201 := Tryz.underlying323
  a201 := Tryz.isAgg323
  z201 := Tryz.sizeOf323
  v201 := Tryz.zeroValue323
  t226 := Tryz.underlying332
  a226 := Tryz.isAgg332
  z226 := Tryz.sizeOf332
  v226 := Tryz.zeroValue332
  t227 := Tryz.underlying333
  a227 := Tryz.isAgg333
  z227 := Tryz.sizeOf333
  v227 := Tryz.zeroValue333
  g0 := by kernel_rfl
  g6 := by kernel_rfl }
open Go.RowKit Go.Lib in
/-- strings.Fields, the table by 'Lib.TabIs' (as strings.TrimSpace's contract). 'hg': the table's number, by its name: at a dump 'by kernel_rfl'. (LAID: no walk: one application.) -/
theorem Tryz.strings_Fields (s : ByteArray) (w : World) (hs : s.size < 4294967281) (hascii : ∀ (j : Nat) b, s.data.toList[j]? = some b → b.toNat < 128) (htab : Lib.TabIs Tryz.prog w "strings.asciiSpace" .u8 Lib.asciiSpaceTab) :
    Calls Tryz.prog 91 #[.string s] w fun e w' =>
      e = .returned (.slice (some ⟨w.heap.size, 0, none⟩) (Lib.fields s.data.toList).length (Lib.fields s.data.toList).length) ∧ w' = w.alloc (.cells ((Lib.fields s.data.toList).map fun l => Value.string ⟨l.toArray⟩).toArray 9) := Any.strings_Fields Tryz.lays157 (by kernel_rfl) (by kernel_rfl) s w hs hascii htab
def Tryz.laysM146_ren : Go.Shelf.Ren := ⟨fun | 146 => 32 | 221 => 102 | 268 => 159 | 138 => 160 | 143 => 161 | 195 => 224 | 197 => 225 | 218 => 226 | 219 => 227 | 260 => 240 | 217 => 241 | 225 => 242 | 224 => 243 | 267 => 244 | 266 => 250 | 314 => 251 | n => n, fun | 9 => 9 | 31 => 81 | 3 => 3 | 4 => 4 | 0 => 0 | 105 => 306 | 21 => 21 | 5 => 5 | 46 => 326 | 119 => 243 | 139 => 336 | 138 => 335 | 146 => 337 | 51 => 301 | n => n, fun | 1 => 3 | 3 => 4 | 4 => 5 | n => n⟩
theorem Tryz.laysM146 : Go.Proofs.LaysM.n146 Tryz.prog Tryz.laysM146_ren := {
  mixed := by kernel_rfl
  f138 := Tryz.func160.trans (congrArg some (by kernel_rfl))
  f143 := Tryz.func161.trans (congrArg some (by kernel_rfl))
  f146 := Tryz.func32.trans (congrArg some (by kernel_rfl))
  f195 := Tryz.func224.trans (congrArg some (by kernel_rfl))
  f197 := Tryz.func225.trans (congrArg some (by kernel_rfl))
  f217 := Tryz.func241.trans (congrArg some (by kernel_rfl))
  f218 := Tryz.func226.trans (congrArg some (by kernel_rfl))
  f219 := Tryz.func227.trans (congrArg some (by kernel_rfl))
  f221 := Tryz.func102.trans (congrArg some (by kernel_rfl))
  f224 := Tryz.func243.trans (congrArg some (by kernel_rfl))
  f225 := Tryz.func242.trans (congrArg some (by kernel_rfl))
  f260 := Tryz.func240.trans (congrArg some (by kernel_rfl))
  f266 := Tryz.func250.trans (congrArg some (by kernel_rfl))
  f267 := Tryz.func244.trans (congrArg some (by kernel_rfl))
  f268 := Tryz.func159.trans (congrArg some (by kernel_rfl))
  f314 := Tryz.func251.trans (congrArg some (by kernel_rfl))
  t0 := Tryz.underlying0
  a0 := Tryz.isAgg0
  z0 := Tryz.sizeOf0
  v0 := Tryz.zeroValue0
  t3 := Tryz.underlying3
  a3 := Tryz.isAgg3
  z3 := Tryz.sizeOf3
  v3 := Tryz.zeroValue3
  t4 := Tryz.underlying4
  a4 := Tryz.isAgg4
  z4 := Tryz.sizeOf4
  v4 := Tryz.zeroValue4
  t5 := Tryz.underlying5
  a5 := Tryz.isAgg5
  z5 := Tryz.sizeOf5
  v5 := Tryz.zeroValue5
  t9 := Tryz.underlying9
  a9 := Tryz.isAgg9
  z9 := Tryz.sizeOf9
  v9 := Tryz.zeroValue9
  t21 := Tryz.underlying21
  a21 := Tryz.isAgg21
  z21 := Tryz.sizeOf21
  v21 := Tryz.zeroValue21
  t31 := Tryz.underlying81
  a31 := Tryz.isAgg81
  z31 := Tryz.sizeOf81
  v31 := Tryz.zeroValue81
  t46 := Tryz.underlying326
  a46 := Tryz.isAgg326
  z46 := Tryz.sizeOf326
  v46 := Tryz.zeroValue326
  t51 := Tryz.underlying301
  a51 := Tryz.isAgg301
  z51 := Tryz.sizeOf301
  v51 := Tryz.zeroValue301
  t105 := Tryz.underlying306
  a105 := Tryz.isAgg306
  z105 := Tryz.sizeOf306
  v105 := Tryz.zeroValue306
  t119 := Tryz.underlying243
  a119 := Tryz.isAgg243
  z119 := Tryz.sizeOf243
  t138 := Tryz.underlying335
  a138 := Tryz.isAgg335
  z138 := Tryz.sizeOf335
  v138 := Tryz.zeroValue335
  t139 := Tryz.underlying336
  a139 := Tryz.isAgg336
  z139 := Tryz.sizeOf336
  v139 := Tryz.zeroValue336
  t146 := Tryz.underlying337
  a146 := Tryz.isAgg337
  z146 := Tryz.sizeOf337
  v146 := Tryz.zeroValue337
  g1 := by kernel_rfl
  g3 := by kernel_rfl
  g4 := by kernel_rfl
  i0 := by kernel_rfl
  i3 := by kernel_rfl
  i4 := by kernel_rfl
  i5 := by kernel_rfl
  i9 := by kernel_rfl
  i21 := by kernel_rfl
  i31 := by kernel_rfl
  i46 := by kernel_rfl
  i51 := by kernel_rfl
  i105 := by kernel_rfl
  i138 := by kernel_rfl
  i139 := by kernel_rfl
  i146 := by kernel_rfl
  m1 := by kernel_rfl
  s1_3 := fun w h => Go.Proofs.cell_of_shapedOpen_int (zero := #[.int .i64 0]) (t := 3) h (of_decide_eq_true (by kernel_rfl)) (by kernel_rfl) rfl (by kernel_rfl) (by kernel_rfl) Tryz.underlying3
  m3 := by kernel_rfl
  m4 := by kernel_rfl }
open Go.RowKit Go.Lib in
/-- strings.Split, sep not empty. (LAID: no walk: one application.) -/
theorem Tryz.strings_Split_shaped (s sep : ByteArray) (w : World) (h : w.ShapedOpen Tryz.prog) (hs : s.size < 4294967281) (h1 : 1 ≤ sep.size) :
    Calls Tryz.prog 32 #[.string s, .string sep] w fun e w' =>
      e = .returned (.slice (some ⟨w.heap.size, 0, none⟩) (Lib.countB s sep + 1) (Lib.countB s sep + 1)) ∧ w' = w.alloc (.cells ((Lib.splitB sep 0 (Lib.countB s sep) s).map Value.string).toArray 9) := Any.strings_Split_shaped Tryz.laysM146 s sep w h hs h1
def Tryz.laysM157_ren : Go.Shelf.Ren := ⟨fun | 157 => 91 | 229 => 152 | 199 => 153 | 261 => 219 | 311 => 235 | 312 => 236 | n => n, fun | 9 => 9 | 31 => 81 | 3 => 3 | 5 => 5 | 4 => 4 | 119 => 243 | 0 => 0 | 40 => 245 | 152 => 298 | 21 => 21 | 154 => 300 | 51 => 301 | 141 => 303 | 196 => 317 | 193 => 314 | 198 => 320 | 49 => 318 | 194 => 315 | 201 => 323 | 226 => 332 | 46 => 326 | 227 => 333 | n => n, fun | 0 => 1 | 6 => 2 | n => n⟩
theorem Tryz.laysM157 : Go.Proofs.LaysM.n157 Tryz.prog Tryz.laysM157_ren := {
  mixed := by kernel_rfl
  f157 := Tryz.func91.trans (congrArg some (by kernel_rfl))
  f199 := Tryz.func153.trans (congrArg some (by kernel_rfl))
  f229 := Tryz.func152.trans (congrArg some (by kernel_rfl))
  f261 := Tryz.func219.trans (congrArg some (by kernel_rfl))
  f311 := Tryz.func235.trans (congrArg some (by kernel_rfl))
  f312 := Tryz.func236.trans (congrArg some (by kernel_rfl))
  t0 := Tryz.underlying0
  a0 := Tryz.isAgg0
  z0 := Tryz.sizeOf0
  v0 := Tryz.zeroValue0
  t3 := Tryz.underlying3
  a3 := Tryz.isAgg3
  z3 := Tryz.sizeOf3
  v3 := Tryz.zeroValue3
  t4 := Tryz.underlying4
  a4 := Tryz.isAgg4
  z4 := Tryz.sizeOf4
  v4 := Tryz.zeroValue4
  t5 := Tryz.underlying5
  a5 := Tryz.isAgg5
  z5 := Tryz.sizeOf5
  v5 := Tryz.zeroValue5
  t9 := Tryz.underlying9
  a9 := Tryz.isAgg9
  z9 := Tryz.sizeOf9
  v9 := Tryz.zeroValue9
  t21 := Tryz.underlying21
  a21 := Tryz.isAgg21
  z21 := Tryz.sizeOf21
  v21 := Tryz.zeroValue21
  t31 := Tryz.underlying81
  a31 := Tryz.isAgg81
  z31 := Tryz.sizeOf81
  v31 := Tryz.zeroValue81
  t40 := Tryz.underlying245
  a40 := Tryz.isAgg245
  z40 := Tryz.sizeOf245
  v40 := Tryz.zeroValue245
  t46 := Tryz.underlying326
  a46 := Tryz.isAgg326
  z46 := Tryz.sizeOf326
  v46 := Tryz.zeroValue326
  t49 := Tryz.underlying318
  a49 := Tryz.isAgg318
  z49 := Tryz.sizeOf318
  v49 := Tryz.zeroValue318
  t51 := Tryz.underlying301
  a51 := Tryz.isAgg301
  z51 := Tryz.sizeOf301
  v51 := Tryz.zeroValue301
  t119 := Tryz.underlying243
  a119 := Tryz.isAgg243
  z119 := Tryz.sizeOf243
  t141 := Tryz.underlying303
  a141 := Tryz.isAgg303
  z141 := Tryz.sizeOf303
  v141 := Tryz.zeroValue303
  t152 := Tryz.underlying298
  a152 := Tryz.isAgg298
  z152 := Tryz.sizeOf298
  v152 := Tryz.zeroValue298
  t154 := Tryz.underlying300
  a154 := Tryz.isAgg300
  z154 := Tryz.sizeOf300
  v154 := Tryz.zeroValue300
  t193 := Tryz.underlying314
  a193 := Tryz.isAgg314
  z193 := Tryz.sizeOf314
  v193 := Tryz.zeroValue314
  t194 := Tryz.underlying315
  a194 := Tryz.isAgg315
  z194 := Tryz.sizeOf315
  v194 := Tryz.zeroValue315
  t196 := Tryz.underlying317
  a196 := Tryz.isAgg317
  z196 := Tryz.sizeOf317
  v196 := Tryz.zeroValue317
  t198 := Tryz.underlying320
  a198 := Tryz.isAgg320
  z198 := Tryz.sizeOf320
  v198 := Tryz.zeroValue320
  t201 := Tryz.underlying323
  a201 := Tryz.isAgg323
  z201 := Tryz.sizeOf323
  v201 := Tryz.zeroValue323
  t226 := Tryz.underlying332
  a226 := Tryz.isAgg332
  z226 := Tryz.sizeOf332
  v226 := Tryz.zeroValue332
  t227 := Tryz.underlying333
  a227 := Tryz.isAgg333
  z227 := Tryz.sizeOf333
  v227 := Tryz.zeroValue333
  g0 := by kernel_rfl
  g6 := by kernel_rfl
  i0 := by kernel_rfl
  i3 := by kernel_rfl
  i4 := by kernel_rfl
  i5 := by kernel_rfl
  i9 := by kernel_rfl
  i21 := by kernel_rfl
  i31 := by kernel_rfl
  i40 := by kernel_rfl
  i46 := by kernel_rfl
  i49 := by kernel_rfl
  i51 := by kernel_rfl
  i141 := by kernel_rfl
  i152 := by kernel_rfl
  i154 := by kernel_rfl
  i193 := by kernel_rfl
  i194 := by kernel_rfl
  i196 := by kernel_rfl
  i198 := by kernel_rfl
  i201 := by kernel_rfl
  i226 := by kernel_rfl
  i227 := by kernel_rfl
  m0 := by kernel_rfl
  m6 := by kernel_rfl }
open Go.RowKit Go.Lib in
/-- strings.Fields on ASCII bytes. (The table: 'Lib.TabIs', as strings.TrimSpace's contract asks it.) (LAID: no walk: one application.) -/
theorem Tryz.strings_Fields_laid (s : ByteArray) (w : World) (hs : s.size < 4294967281) (hascii : ∀ (j : Nat) b, s.data.toList[j]? = some b → b.toNat < 128) (htab : Lib.TabIs Tryz.prog w "strings.asciiSpace" .u8 Lib.asciiSpaceTab) :
    Calls Tryz.prog 91 #[.string s] w fun e w' =>
      e = .returned (.slice (some ⟨w.heap.size, 0, none⟩) (Lib.fields s.data.toList).length (Lib.fields s.data.toList).length) ∧ w' = w.alloc (.cells ((Lib.fields s.data.toList).map fun l => Value.string ⟨l.toArray⟩).toArray 9) := Any.strings_Fields_laid Tryz.laysM157 s w hs hascii htab
def Tryz.lays199_ren : Go.Shelf.Ren := ⟨fun | 199 => 153 | 261 => 219 | 311 => 235 | 312 => 236 | n => n, fun | 21 => 21 | 4 => 4 | 51 => 301 | 141 => 303 | 0 => 0 | 196 => 317 | 193 => 314 | 3 => 3 | 198 => 320 | 49 => 318 | 194 => 315 | 201 => 323 | 226 => 332 | 46 => 326 | 227 => 333 | n => n, fun | 6 => 2 | n => n⟩
theorem Tryz.lays199 : Go.Proofs.Lays.n199 Tryz.prog Tryz.lays199_ren := {
  mixed := by kernel_rfl
  f199 := Tryz.func153.trans (congrArg some (by kernel_rfl))
  f261 := Tryz.func219.trans (congrArg some (by kernel_rfl))
  f311 := Tryz.func235.trans (congrArg some (by kernel_rfl))
  f312 := Tryz.func236.trans (congrArg some (by kernel_rfl))
  t0 := Tryz.underlying0
  a0 := Tryz.isAgg0
  z0 := Tryz.sizeOf0
  v0 := Tryz.zeroValue0
  t3 := Tryz.underlying3
  a3 := Tryz.isAgg3
  z3 := Tryz.sizeOf3
  v3 := Tryz.zeroValue3
  t4 := Tryz.underlying4
  a4 := Tryz.isAgg4
  z4 := Tryz.sizeOf4
  v4 := Tryz.zeroValue4
  t21 := Tryz.underlying21
  a21 := Tryz.isAgg21
  z21 := Tryz.sizeOf21
  v21 := Tryz.zeroValue21
  t46 := Tryz.underlying326
  a46 := Tryz.isAgg326
  z46 := Tryz.sizeOf326
  v46 := Tryz.zeroValue326
  t49 := Tryz.underlying318
  a49 := Tryz.isAgg318
  z49 := Tryz.sizeOf318
  v49 := Tryz.zeroValue318
  t51 := Tryz.underlying301
  a51 := Tryz.isAgg301
  z51 := Tryz.sizeOf301
  v51 := Tryz.zeroValue301
  t141 := Tryz.underlying303
  a141 := Tryz.isAgg303
  z141 := Tryz.sizeOf303
  v141 := Tryz.zeroValue303
  t193 := Tryz.underlying314
  a193 := Tryz.isAgg314
  z193 := Tryz.sizeOf314
  v193 := Tryz.zeroValue314
  t194 := Tryz.underlying315
  a194 := Tryz.isAgg315
  z194 := Tryz.sizeOf315
  v194 := Tryz.zeroValue315
  t196 := Tryz.underlying317
  a196 := Tryz.isAgg317
  z196 := Tryz.sizeOf317
  v196 := Tryz.zeroValue317
  t198 := Tryz.underlying320
  a198 := Tryz.isAgg320
  z198 := Tryz.sizeOf320
  v198 := Tryz.zeroValue320
  t201 := Tryz.underlying323
  a201 := Tryz.isAgg323
  z201 := Tryz.sizeOf323
  v201 := Tryz.zeroValue323
  t226 := Tryz.underlying332
  a226 := Tryz.isAgg332
  z226 := Tryz.sizeOf332
  v226 := Tryz.zeroValue332
  t227 := Tryz.underlying333
  a227 := Tryz.isAgg333
  z227 := Tryz.sizeOf333
  v227 := Tryz.zeroValue333
  g6 := by kernel_rfl }
open Go.RowKit Go.Lib in
theorem Tryz.unicode_IsSpace (r : Int) (w : World) (h0 : 0 ≤ r) (h : r ≤ 255) :
    Calls Tryz.prog 153 #[.int .i32 r] w fun e w' => e = .returned (.bool (Lib.isSpaceL r)) ∧ w' = w := Any.unicode_IsSpace Tryz.lays199 r w h0 h
def Tryz.lays260_ren : Go.Shelf.Ren := ⟨fun | 260 => 240 | n => n, fun | 9 => 9 | 21 => 21 | 3 => 3 | 4 => 4 | 5 => 5 | 119 => 243 | 0 => 0 | 46 => 326 | 139 => 336 | 138 => 335 | n => n, fun | 3 => 4 | 4 => 5 | n => n⟩
theorem Tryz.lays260 : Go.Proofs.Lays.n260 Tryz.prog Tryz.lays260_ren := {
  mixed := by kernel_rfl
  f260 := Tryz.func240.trans (congrArg some (by kernel_rfl))
  t0 := Tryz.underlying0
  a0 := Tryz.isAgg0
  z0 := Tryz.sizeOf0
  v0 := Tryz.zeroValue0
  t3 := Tryz.underlying3
  a3 := Tryz.isAgg3
  z3 := Tryz.sizeOf3
  v3 := Tryz.zeroValue3
  t4 := Tryz.underlying4
  a4 := Tryz.isAgg4
  z4 := Tryz.sizeOf4
  v4 := Tryz.zeroValue4
  t5 := Tryz.underlying5
  a5 := Tryz.isAgg5
  z5 := Tryz.sizeOf5
  v5 := Tryz.zeroValue5
  t9 := Tryz.underlying9
  a9 := Tryz.isAgg9
  z9 := Tryz.sizeOf9
  v9 := Tryz.zeroValue9
  t21 := Tryz.underlying21
  a21 := Tryz.isAgg21
  z21 := Tryz.sizeOf21
  v21 := Tryz.zeroValue21
  t46 := Tryz.underlying326
  a46 := Tryz.isAgg326
  z46 := Tryz.sizeOf326
  v46 := Tryz.zeroValue326
  t119 := Tryz.underlying243
  a119 := Tryz.isAgg243
  z119 := Tryz.sizeOf243
  t138 := Tryz.underlying335
  a138 := Tryz.isAgg335
  z138 := Tryz.sizeOf335
  v138 := Tryz.zeroValue335
  t139 := Tryz.underlying336
  a139 := Tryz.isAgg336
  z139 := Tryz.sizeOf336
  v139 := Tryz.zeroValue336
  g3 := by kernel_rfl
  g4 := by kernel_rfl }
open Go.RowKit Go.Lib in
theorem Tryz.utf8_decodeRuneInStringSlow (s : ByteArray) (w : World) (hT : Lib.Utf8Tabs 4 5 w) :
    Calls Tryz.prog 240 #[.string s] w fun e w' => e = .returned (.tuple #[.int .i32 (Lib.decodeGo s).1, .int .i64 (Lib.decodeGo s).2]) ∧ Below w.heap.size w w' := Any.utf8_decodeRuneInStringSlow Tryz.lays260 s w hT
def Tryz.lays311_ren : Go.Shelf.Ren := ⟨fun | 311 => 235 | n => n, fun | 193 => 314 | 49 => 318 | 4 => 4 | 3 => 3 | 0 => 0 | 226 => 332 | 198 => 320 | 46 => 326 | n => n, fun | n => n⟩
theorem Tryz.lays311 : Go.Proofs.Lays.n311 Tryz.prog Tryz.lays311_ren := {
  mixed := by kernel_rfl
  f311 := Tryz.func235.trans (congrArg some (by kernel_rfl))
  t0 := Tryz.underlying0
  a0 := Tryz.isAgg0
  z0 := Tryz.sizeOf0
  v0 := Tryz.zeroValue0
  t3 := Tryz.underlying3
  a3 := Tryz.isAgg3
  z3 := Tryz.sizeOf3
  v3 := Tryz.zeroValue3
  t4 := Tryz.underlying4
  a4 := Tryz.isAgg4
  z4 := Tryz.sizeOf4
  v4 := Tryz.zeroValue4
  t46 := Tryz.underlying326
  a46 := Tryz.isAgg326
  z46 := Tryz.sizeOf326
  v46 := Tryz.zeroValue326
  t49 := Tryz.underlying318
  a49 := Tryz.isAgg318
  z49 := Tryz.sizeOf318
  v49 := Tryz.zeroValue318
  t193 := Tryz.underlying314
  a193 := Tryz.isAgg314
  z193 := Tryz.sizeOf314
  v193 := Tryz.zeroValue314
  t198 := Tryz.underlying320
  a198 := Tryz.isAgg320
  z198 := Tryz.sizeOf320
  v198 := Tryz.zeroValue320
  t226 := Tryz.underlying332
  a226 := Tryz.isAgg332
  z226 := Tryz.sizeOf332
  v226 := Tryz.zeroValue332 }
open Go.RowKit Go.Lib in
theorem Tryz.unicode_is16_white (R oR : Nat) (z : Nat) (w : World) (hz : z < 65536) (hz0 : 255 < z) (c6 : w.cell? ⟨R, oR + 6, none⟩ = some (.int .u16 160)) (c7 : w.cell? ⟨R, oR + 7, none⟩ = some (.int .u16 5760)) (c8 : w.cell? ⟨R, oR + 8, none⟩ = some (.int .u16 5600)) (c9 : w.cell? ⟨R, oR + 9, none⟩ = some (.int .u16 8192)) (c10 : w.cell? ⟨R, oR + 10, none⟩ = some (.int .u16 8202)) (c11 : w.cell? ⟨R, oR + 11, none⟩ = some (.int .u16 1)) (c12 : w.cell? ⟨R, oR + 12, none⟩ = some (.int .u16 8232)) (c13 : w.cell? ⟨R, oR + 13, none⟩ = some (.int .u16 8233)) (c14 : w.cell? ⟨R, oR + 14, none⟩ = some (.int .u16 1)) (c15 : w.cell? ⟨R, oR + 15, none⟩ = some (.int .u16 8239)) (c16 : w.cell? ⟨R, oR + 16, none⟩ = some (.int .u16 8287)) (c17 : w.cell? ⟨R, oR + 17, none⟩ = some (.int .u16 48)) (c18 : w.cell? ⟨R, oR + 18, none⟩ = some (.int .u16 12288)) (c19 : w.cell? ⟨R, oR + 19, none⟩ = some (.int .u16 12288)) (c20 : w.cell? ⟨R, oR + 20, none⟩ = some (.int .u16 1)) :
    Calls Tryz.prog 235 #[.slice (some ⟨R, oR + 6, none⟩) 5 5, .int .u16 z] w fun e w' => e = .returned (.bool (Lib.isSpaceR z)) ∧ Below w.heap.size w w' := Any.unicode_is16_white Tryz.lays311 R oR z w hz hz0 c6 c7 c8 c9 c10 c11 c12 c13 c14 c15 c16 c17 c18 c19 c20
def Tryz.lays261_ren : Go.Shelf.Ren := ⟨fun | 261 => 219 | 311 => 235 | 312 => 236 | n => n, fun | 141 => 303 | 21 => 21 | 4 => 4 | 0 => 0 | 196 => 317 | 193 => 314 | 3 => 3 | 51 => 301 | 198 => 320 | 49 => 318 | 194 => 315 | 201 => 323 | 226 => 332 | 46 => 326 | 227 => 333 | n => n, fun | n => n⟩
theorem Tryz.lays261 : Go.Proofs.Lays.n261 Tryz.prog Tryz.lays261_ren := {
  mixed := by kernel_rfl
  f261 := Tryz.func219.trans (congrArg some (by kernel_rfl))
  f311 := Tryz.func235.trans (congrArg some (by kernel_rfl))
  f312 := Tryz.func236.trans (congrArg some (by kernel_rfl))
  t0 := Tryz.underlying0
  a0 := Tryz.isAgg0
  z0 := Tryz.sizeOf0
  v0 := Tryz.zeroValue0
  t3 := Tryz.underlying3
  a3 := Tryz.isAgg3
  z3 := Tryz.sizeOf3
  v3 := Tryz.zeroValue3
  t4 := Tryz.underlying4
  a4 := Tryz.isAgg4
  z4 := Tryz.sizeOf4
  v4 := Tryz.zeroValue4
  t21 := Tryz.underlying21
  a21 := Tryz.isAgg21
  z21 := Tryz.sizeOf21
  v21 := Tryz.zeroValue21
  t46 := Tryz.underlying326
  a46 := Tryz.isAgg326
  z46 := Tryz.sizeOf326
  v46 := Tryz.zeroValue326
  t49 := Tryz.underlying318
  a49 := Tryz.isAgg318
  z49 := Tryz.sizeOf318
  v49 := Tryz.zeroValue318
  t51 := Tryz.underlying301
  a51 := Tryz.isAgg301
  z51 := Tryz.sizeOf301
  v51 := Tryz.zeroValue301
  t141 := Tryz.underlying303
  a141 := Tryz.isAgg303
  z141 := Tryz.sizeOf303
  v141 := Tryz.zeroValue303
  t193 := Tryz.underlying314
  a193 := Tryz.isAgg314
  z193 := Tryz.sizeOf314
  v193 := Tryz.zeroValue314
  t194 := Tryz.underlying315
  a194 := Tryz.isAgg315
  z194 := Tryz.sizeOf315
  v194 := Tryz.zeroValue315
  t196 := Tryz.underlying317
  a196 := Tryz.isAgg317
  z196 := Tryz.sizeOf317
  v196 := Tryz.zeroValue317
  t198 := Tryz.underlying320
  a198 := Tryz.isAgg320
  z198 := Tryz.sizeOf320
  v198 := Tryz.zeroValue320
  t201 := Tryz.underlying323
  a201 := Tryz.isAgg323
  z201 := Tryz.sizeOf323
  v201 := Tryz.zeroValue323
  t226 := Tryz.underlying332
  a226 := Tryz.isAgg332
  z226 := Tryz.sizeOf332
  v226 := Tryz.zeroValue332
  t227 := Tryz.underlying333
  a227 := Tryz.isAgg333
  z227 := Tryz.sizeOf333
  v227 := Tryz.zeroValue333 }
open Go.RowKit Go.Lib in
/-- unicode.isExcludingLatin(White_Space, r), r beyond U+00FF or negative. (LAID: no walk: one application.) -/
theorem Tryz.unicode_isExcludingLatin_white (T oT R oR : Nat) (r : Int) (w : World) (hlo : -2147483648 ≤ r) (hhi : r ≤ 2147483647) (hr : r < 0 ∨ 255 < r) (h2 : w.cell? ⟨T, oT, none⟩ = some (.slice (some ⟨R, oR, none⟩) 7 7)) (h3 : w.cell? ⟨T, oT + 1, none⟩ = some (.slice none 0 0)) (h4 : w.cell? ⟨T, oT + 2, none⟩ = some (.int .i64 2)) (h5 : ∀ i, i < 21 → w.cell? ⟨R, oR + i, none⟩ = some (.int .u16 (whiteT.getD i 0))) :
    Calls Tryz.prog 219 #[.pointer (some ⟨T, oT, none⟩), .int .i32 r] w fun e w' => e = .returned (.bool (Lib.isSpaceZ r)) ∧ Below w.heap.size w w' := Any.unicode_isExcludingLatin_white Tryz.lays261 T oT R oR r w hlo hhi hr h2 h3 h4 h5
open Go.RowKit Go.Lib in
/-- **unicode.IsSpace AT EVERY int32.** (LAID: no walk: one application.) -/
theorem Tryz.unicode_IsSpace_any (r : Int) (w : World) (hlo : -2147483648 ≤ r) (hhi : r ≤ 2147483647) (hW : Lib.WhiteTab 2 w) :
    Calls Tryz.prog 153 #[.int .i32 r] w fun e w' => e = .returned (.bool (Lib.isSpaceZ r)) ∧ Below w.heap.size w w' := Any.unicode_IsSpace_any Tryz.lays199 r w hlo hhi hW
open Go.RowKit Go.Lib in
theorem Tryz.unicode_is16_any (T : Array Rg) (R oR cap : Nat) (z : Nat) (w : World) (hz : z < 65536) (hT : RgTab .u16 R oR T w) (hok : RgOk 65536 T) (hn : T.size ≤ 1000000000) :
    Calls Tryz.prog 235 #[.slice (some ⟨R, oR, none⟩) T.size cap, .int .u16 z] w fun e w' => e = .returned (.bool (is16Go T z)) ∧ ∃ q, w' = w.drewN q := Any.unicode_is16_any Tryz.lays311 T R oR cap z w hz hT hok hn
def Tryz.lays312_ren : Go.Shelf.Ren := ⟨fun | 312 => 236 | n => n, fun | 194 => 315 | 51 => 301 | 4 => 4 | 3 => 3 | 0 => 0 | 227 => 333 | 201 => 323 | 46 => 326 | n => n, fun | n => n⟩
theorem Tryz.lays312 : Go.Proofs.Lays.n312 Tryz.prog Tryz.lays312_ren := {
  mixed := by kernel_rfl
  f312 := Tryz.func236.trans (congrArg some (by kernel_rfl))
  t0 := Tryz.underlying0
  a0 := Tryz.isAgg0
  z0 := Tryz.sizeOf0
  v0 := Tryz.zeroValue0
  t3 := Tryz.underlying3
  a3 := Tryz.isAgg3
  z3 := Tryz.sizeOf3
  v3 := Tryz.zeroValue3
  t4 := Tryz.underlying4
  a4 := Tryz.isAgg4
  z4 := Tryz.sizeOf4
  v4 := Tryz.zeroValue4
  t46 := Tryz.underlying326
  a46 := Tryz.isAgg326
  z46 := Tryz.sizeOf326
  v46 := Tryz.zeroValue326
  t51 := Tryz.underlying301
  a51 := Tryz.isAgg301
  z51 := Tryz.sizeOf301
  v51 := Tryz.zeroValue301
  t194 := Tryz.underlying315
  a194 := Tryz.isAgg315
  z194 := Tryz.sizeOf315
  v194 := Tryz.zeroValue315
  t201 := Tryz.underlying323
  a201 := Tryz.isAgg323
  z201 := Tryz.sizeOf323
  v201 := Tryz.zeroValue323
  t227 := Tryz.underlying333
  a227 := Tryz.isAgg333
  z227 := Tryz.sizeOf333
  v227 := Tryz.zeroValue333 }
open Go.RowKit Go.Lib in
theorem Tryz.unicode_is32_any (T : Array Rg) (R oR cap : Nat) (z : Nat) (w : World) (hz : z < 4294967296) (hT : RgTab .u32 R oR T w) (hok : RgOk 4294967296 T) (hn : T.size ≤ 1000000000) :
    Calls Tryz.prog 236 #[.slice (some ⟨R, oR, none⟩) T.size cap, .int .u32 z] w fun e w' => e = .returned (.bool (is32Go T z)) ∧ Below w.heap.size w w' := Any.unicode_is32_any Tryz.lays312 T R oR cap z w hz hT hok hn
open Go.RowKit Go.Lib in
theorem Tryz.unicode_isExcludingLatin_any (Tb oT : Nat) (T : RTab) (r : Int) (w : World) (hlo : -2147483648 ≤ r) (hhi : r ≤ 2147483647) (hA : RTabAt Tb oT T w) (hok : RTabOk T) :
    Calls Tryz.prog 219 #[.pointer (some ⟨Tb, oT, none⟩), .int .i32 r] w fun e w' => e = .returned (.bool (exclGo T r)) ∧ Below w.heap.size w w' := Any.unicode_isExcludingLatin_any Tryz.lays261 Tb oT T r w hlo hhi hA hok
def Tryz.lays111_ren : Go.Shelf.Ren := ⟨fun | 111 => 150 | n => n, fun | 28 => 36 | 3 => 3 | 4 => 4 | 0 => 0 | n => n, fun | n => n⟩
theorem Tryz.lays111 : Go.Proofs.Lays.n111 Tryz.prog Tryz.lays111_ren := {
  mixed := by kernel_rfl
  f111 := Tryz.func150.trans (congrArg some (by kernel_rfl))
  t0 := Tryz.underlying0
  a0 := Tryz.isAgg0
  z0 := Tryz.sizeOf0
  v0 := Tryz.zeroValue0
  t3 := Tryz.underlying3
  a3 := Tryz.isAgg3
  z3 := Tryz.sizeOf3
  v3 := Tryz.zeroValue3
  t4 := Tryz.underlying4
  a4 := Tryz.isAgg4
  z4 := Tryz.sizeOf4
  v4 := Tryz.zeroValue4
  t28 := Tryz.underlying36
  a28 := Tryz.isAgg36
  z28 := Tryz.sizeOf36
  v28 := Tryz.zeroValue36 }
open Go.RowKit Go.Lib in
/-- slices.Equal at []int: "Equal reports whether two slices are equal: the same length and all elements equal. If the lengths are different, Equal returns false. Otherwise, the elements are compared in increasing index order, and the comparison stops at the first unequal pair. Empty and nil slices are considered equal.": IT RETURNS WHETHER THE TWO LISTS OF ELEMENTS ARE ONE; the world is as it was but for the count of draws (the test 's1[i] != s2[i]' has two reads, whose order the model draws, once a round). 'xs', 'ys': what the cells behind the two addresses hold (the spare capacity too, if you have it); 'xs.take n', 'ys.take m': the elements. THE TWO SLICES MAY OVERLAP. (LAID: no walk: one application.) -/
theorem Tryz.slices_Equal_int (b1 o1 n c b2 o2 m d : Nat) (xs ys : List Int) (w : World) (hx : n ≤ xs.length) (hy : m ≤ ys.length) (hbig : n ≤ 9223372036854775807) (hbig2 : m ≤ 9223372036854775807) (hc1 : ∀ j, j < xs.length → w.cell? ⟨b1, o1 + j, none⟩ = some (.int .i64 (xs.getD j 0))) (hc2 : ∀ j, j < ys.length → w.cell? ⟨b2, o2 + j, none⟩ = some (.int .i64 (ys.getD j 0))) :
    Calls Tryz.prog 150 #[.slice (some ⟨b1, o1, none⟩) n c, .slice (some ⟨b2, o2, none⟩) m d] w fun e w' => e = .returned (.bool (xs.take n == ys.take m)) ∧ ∃ q, w' = w.drewN q := Any.slices_Equal_int Tryz.lays111 b1 o1 n c b2 o2 m d xs ys w hx hy hbig hbig2 hc1 hc2
open Go.RowKit Go.Lib in
/-- The same where the first is of length 0 (a nil one too): no cell is asked for. (LAID: no walk: one application.) -/
theorem Tryz.slices_Equal_int_empty (a1 a2 : Option Addr) (c m d : Nat) (w : World) (hbig2 : m ≤ 9223372036854775807) :
    Calls Tryz.prog 150 #[.slice a1 0 c, .slice a2 m d] w fun e w' => e = .returned (.bool (decide (m = 0))) ∧ w' = w := Any.slices_Equal_int_empty Tryz.lays111 a1 a2 c m d w hbig2
open Go.RowKit Go.Lib in
theorem Tryz.slices_Equal_int_lens (a1 a2 : Option Addr) (n c m d : Nat) (w : World) (hnm : n ≠ m) :
    Calls Tryz.prog 150 #[.slice a1 n c, .slice a2 m d] w fun e w' => e = .returned (.bool false) ∧ w' = w := Any.slices_Equal_int_lens Tryz.lays111 a1 a2 n c m d w hnm
end Go.Proofs
