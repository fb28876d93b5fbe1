/-
  DERIVED: THE SHELF's CONTRACTS AT THIS DUMP, IN PLAIN WORDS (tools/lay-plain.mjs out of 'TrydShelf.lean', which tools/lay-shelf.mjs wrote): THE SAME DECLARATIONS UNDER THE SAME NAMES: 'import', 'namespace', 'open', 'def', 'theorem' AND NOTHING ELSE: no command of the shelf's: FOR A HAND-IN. Each laying: the table of numbers ('.._ren') and one theorem, a field a fact of the dump's own or the kernel's comparison; each contract: ONE APPLICATION.
-/
import Derived.Shelf.Strings.Builder1
import Derived.Shelf.Strings.Builder2
import Derived.Shelf.Strings.OnBuilder
import Derived.Shelf.Strconv.Itoa0
import Derived.Shelf.Strconv.Itoa1
import Derived.Shelf.LaysM
import Derived.Shelf.Strconv.Itoa2
import Derived.Shelf.Strconv.Itoa3
import Derived.Test.YtofdhddbfjfkcaaDoorProg
import Derived.Lib.ItoaLen
import Derived.Lib.Builder
import Derived.Lib.UnsafeStr
import Derived.WalkKit
import Derived.Lib.Walk
import Derived.BigCall
import Derived.BigFrame
import Derived.Shelf.RegionOpen
import Derived.Test.YtofdhddbfjfkcaaDoorHa
import Derived.Test.YtofdhddbfjfkcaaDoorHb
namespace Go.Proofs
open Go.Shelf
def Tryd.lays169_ren : Go.Shelf.Ren := ⟨fun | 169 => 112 | n => n, fun | 70 => 142 | 9 => 9 | 0 => 0 | 72 => 145 | 37 => 143 | 127 => 164 | 3 => 3 | 5 => 5 | n => n, fun | n => n⟩
theorem Tryd.lays169 : Go.Proofs.Lays.n169 Tryd.prog Tryd.lays169_ren := {
  mixed := by kernel_rfl
  f169 := Tryd.func112.trans (congrArg some (by kernel_rfl))
  t0 := Tryd.underlying0
  a0 := Tryd.isAgg0
  z0 := Tryd.sizeOf0
  v0 := Tryd.zeroValue0
  t3 := Tryd.underlying3
  a3 := Tryd.isAgg3
  z3 := Tryd.sizeOf3
  v3 := Tryd.zeroValue3
  t9 := Tryd.underlying9
  a9 := Tryd.isAgg9
  z9 := Tryd.sizeOf9
  v9 := Tryd.zeroValue9
  t37 := Tryd.underlying143
  a37 := Tryd.isAgg143
  z37 := Tryd.sizeOf143
  v37 := Tryd.zeroValue143
  t70 := Tryd.underlying142
  a70 := Tryd.isAgg142
  z70 := Tryd.sizeOf142
  v70 := Tryd.zeroValue142
  t72 := Tryd.underlying145
  a72 := Tryd.isAgg145
  z72 := Tryd.sizeOf145
  v72 := Tryd.zeroValue145
  t127 := Tryd.underlying164
  a127 := Tryd.isAgg164
  z127 := Tryd.sizeOf164
  v127 := Tryd.zeroValue164 }
theorem Tryd.Builder_Extra_169 : Builder.Extra Tryd.prog Tryd.lays169_ren := {
  sizeBuilder := by kernel_rfl
  liesBuilder := by kernel_rfl
  t5 := Tryd.underlying5
  a5 := Tryd.isAgg5
  z5 := Tryd.sizeOf5
  v5 := Tryd.zeroValue5
  infoByte := by kernel_rfl
  cellsByte := by kernel_rfl
  sizeByte := by kernel_rfl
  neB5 := by decide }
open Go.RowKit in
/-- (*strings.Builder).String: "String returns the accumulated string.": OF A BUILDER THAT HOLDS AT LEAST ONE BYTE. ✋ THE MODEL FREEZES THOSE BYTES IN THE BUFFER (unsafe.String): a later write INTO them ends the model's run without an answer; a later append BEHIND them goes on. The statement's order of evaluation is drawn: one draw. (LAID: no walk: one application.) -/
theorem Tryd.Builder_String (B b : Nat) (l : List UInt8) (w : World) (h : Lib.IsBuilder 145 5 B b (Lib.byteCells l) w) (h0 : l ≠ []) :
    Calls Tryd.prog 112 #[.pointer (some ⟨b, 0, none⟩)] w fun e w' => e = .returned (.string ⟨l.toArray⟩) ∧ Below B w w' := Any.Builder_String Tryd.lays169 Tryd.Builder_Extra_169 B b l w h h0
open Go.RowKit in
/-- (*strings.Builder).String OF A BUILDER THAT HOLDS NO BYTE: the empty string. (Its buffer is nil, or a row of which it has taken nothing yet; where that row has NO capacity the model lays one new block for unsafe.SliceData's 'some address'.) One draw. (LAID: no walk: one application.) -/
theorem Tryd.Builder_String_empty (B b : Nat) (w : World) (h : Lib.IsBuilder 145 5 B b [] w) (hBw : B ≤ w.heap.size) :
    Calls Tryd.prog 112 #[.pointer (some ⟨b, 0, none⟩)] w fun e w' => e = .returned (.string ⟨#[]⟩) ∧ Below B w w' := Any.Builder_String_empty Tryd.lays169 Tryd.Builder_Extra_169 B b w h hBw
open Go.RowKit in
/-- (*strings.Builder).String: "String returns the accumulated string.": WHATEVER THE BUILDER HOLDS. (LAID: no walk: one application.) -/
theorem Tryd.Builder_String_any (B b : Nat) (l : List UInt8) (w : World) (h : Lib.IsBuilder 145 5 B b (Lib.byteCells l) w) (hBw : B ≤ w.heap.size) :
    Calls Tryd.prog 112 #[.pointer (some ⟨b, 0, none⟩)] w fun e w' => e = .returned (.string ⟨l.toArray⟩) ∧ Below B w w' := Any.Builder_String_any Tryd.lays169 Tryd.Builder_Extra_169 B b l w h hBw
def Tryd.lays241_ren : Go.Shelf.Ren := ⟨fun | 241 => 131 | 277 => 136 | n => n, fun | 70 => 142 | 3 => 3 | 0 => 0 | 72 => 145 | 37 => 143 | 5 => 5 | n => n, fun | n => n⟩
theorem Tryd.lays241 : Go.Proofs.Lays.n241 Tryd.prog Tryd.lays241_ren := {
  mixed := by kernel_rfl
  f241 := Tryd.func131.trans (congrArg some (by kernel_rfl))
  f277 := Tryd.func136.trans (congrArg some (by kernel_rfl))
  t0 := Tryd.underlying0
  a0 := Tryd.isAgg0
  z0 := Tryd.sizeOf0
  v0 := Tryd.zeroValue0
  t3 := Tryd.underlying3
  a3 := Tryd.isAgg3
  z3 := Tryd.sizeOf3
  v3 := Tryd.zeroValue3
  t37 := Tryd.underlying143
  a37 := Tryd.isAgg143
  z37 := Tryd.sizeOf143
  v37 := Tryd.zeroValue143
  t70 := Tryd.underlying142
  a70 := Tryd.isAgg142
  z70 := Tryd.sizeOf142
  v70 := Tryd.zeroValue142
  t72 := Tryd.underlying145
  a72 := Tryd.isAgg145
  z72 := Tryd.sizeOf145
  v72 := Tryd.zeroValue145 }
theorem Tryd.Builder_Extra_241 : Builder.Extra Tryd.prog Tryd.lays241_ren := {
  sizeBuilder := by kernel_rfl
  liesBuilder := by kernel_rfl
  t5 := Tryd.underlying5
  a5 := Tryd.isAgg5
  z5 := Tryd.sizeOf5
  v5 := Tryd.zeroValue5
  infoByte := by kernel_rfl
  cellsByte := by kernel_rfl
  sizeByte := by kernel_rfl
  neB5 := by decide }
open Go.RowKit in
/-- (*strings.Builder).grow (no doc but "grow copies the buffer to a new, larger buffer so that there are at least n bytes of capacity beyond len(b.buf)."): AT A BUILDER WITHOUT A BUFFER: a new row of whatever bytes for its buffer, none of them its own yet. Three draws. (LAID: no walk: one application.) -/
theorem Tryd.Builder_grow_fresh (B b n : Nat) (w : World) (hB : B ≤ b) (hbk : w.heap[b]? = some (.cells #[.pointer (some ⟨b, 0, none⟩), .slice none 0 0] 145 (0, 0))) (hBw : B ≤ w.heap.size) (hn : n ≤ 281474976710656) :
    Calls Tryd.prog 131 #[.pointer (some ⟨b, 0, none⟩), .int .i64 n] w fun e w' => e = .returned (.tuple #[]) ∧ (Lib.BuilderAt 145 5 B b (.pointer (some ⟨b, 0, none⟩)) [] w' ∧ Below B w w') := Any.Builder_grow_fresh Tryd.lays241 Tryd.Builder_Extra_241 B b n w hB hbk hBw hn
def Tryd.lays165_ren : Go.Shelf.Ren := ⟨fun | 165 => 129 | 240 => 125 | 241 => 131 | 276 => 128 | 277 => 136 | n => n, fun | 70 => 142 | 3 => 3 | 0 => 0 | 4 => 4 | 9 => 9 | 20 => 20 | 72 => 145 | 37 => 143 | 164 => 166 | 5 => 5 | n => n, fun | n => n⟩
theorem Tryd.lays165 : Go.Proofs.Lays.n165 Tryd.prog Tryd.lays165_ren := {
  mixed := by kernel_rfl
  f165 := Tryd.func129.trans (congrArg some (by kernel_rfl))
  f240 := Tryd.func125.trans (congrArg some (by kernel_rfl))
  f241 := Tryd.func131.trans (congrArg some (by kernel_rfl))
  f276 := Tryd.func128.trans (congrArg some (by kernel_rfl))
  f277 := Tryd.func136.trans (congrArg some (by kernel_rfl))
  t0 := Tryd.underlying0
  a0 := Tryd.isAgg0
  z0 := Tryd.sizeOf0
  v0 := Tryd.zeroValue0
  t3 := Tryd.underlying3
  a3 := Tryd.isAgg3
  z3 := Tryd.sizeOf3
  v3 := Tryd.zeroValue3
  t4 := Tryd.underlying4
  a4 := Tryd.isAgg4
  z4 := Tryd.sizeOf4
  v4 := Tryd.zeroValue4
  t9 := Tryd.underlying9
  a9 := Tryd.isAgg9
  z9 := Tryd.sizeOf9
  v9 := Tryd.zeroValue9
  t20 := Tryd.underlying20
  a20 := Tryd.isAgg20
  z20 := Tryd.sizeOf20
  v20 := Tryd.zeroValue20
  t37 := Tryd.underlying143
  a37 := Tryd.isAgg143
  z37 := Tryd.sizeOf143
  v37 := Tryd.zeroValue143
  t70 := Tryd.underlying142
  a70 := Tryd.isAgg142
  z70 := Tryd.sizeOf142
  v70 := Tryd.zeroValue142
  t72 := Tryd.underlying145
  a72 := Tryd.isAgg145
  z72 := Tryd.sizeOf145
  v72 := Tryd.zeroValue145
  t164 := Tryd.underlying166
  a164 := Tryd.isAgg166
  z164 := Tryd.sizeOf166
  v164 := Tryd.zeroValue166 }
theorem Tryd.Builder_Extra_165 : Builder.Extra Tryd.prog Tryd.lays165_ren := {
  sizeBuilder := by kernel_rfl
  liesBuilder := by kernel_rfl
  t5 := Tryd.underlying5
  a5 := Tryd.isAgg5
  z5 := Tryd.sizeOf5
  v5 := Tryd.zeroValue5
  infoByte := by kernel_rfl
  cellsByte := by kernel_rfl
  sizeByte := by kernel_rfl
  neB5 := by decide }
open Go.RowKit in
/-- (*strings.Builder).Grow AT A BUILDER THAT HAS NOT BEEN WRITTEN ('var b strings.Builder; b.Grow(n)'): "Grow grows b's capacity, if necessary, to guarantee space for another n bytes.": it holds no byte behind it as before it. (LAID: no walk: one application.) -/
theorem Tryd.Builder_Grow_fresh (B b n : Nat) (w : World) (hB : B ≤ b) (hbk : w.heap[b]? = some (.cells #[.pointer none, .slice none 0 0] 145 (0, 0))) (hBw : B ≤ w.heap.size) (hn : n ≤ 281474976710656) :
    Calls Tryd.prog 129 #[.pointer (some ⟨b, 0, none⟩), .int .i64 n] w fun e w' => e = .returned (.tuple #[]) ∧ (Lib.BuilderAt 145 5 B b (.pointer (some ⟨b, 0, none⟩)) [] w' ∧ Below B w w') := Any.Builder_Grow_fresh Tryd.lays165 Tryd.Builder_Extra_165 B b n w hB hbk hBw hn
def Tryd.lays156_ren : Go.Shelf.Ren := ⟨fun | 156 => 126 | 165 => 129 | 166 => 108 | 169 => 112 | 240 => 125 | 241 => 131 | 276 => 128 | 277 => 136 | n => n, fun | 31 => 152 | 9 => 9 | 3 => 3 | 4 => 4 | 0 => 0 | 20 => 20 | 72 => 145 | 76 => 148 | 70 => 142 | 37 => 143 | 75 => 147 | 127 => 164 | 164 => 166 | 5 => 5 | 80 => 154 | n => n, fun | n => n⟩
theorem Tryd.lays156 : Go.Proofs.Lays.n156 Tryd.prog Tryd.lays156_ren := {
  mixed := by kernel_rfl
  f156 := Tryd.func126.trans (congrArg some (by kernel_rfl))
  f165 := Tryd.func129.trans (congrArg some (by kernel_rfl))
  f166 := Tryd.func108.trans (congrArg some (by kernel_rfl))
  f169 := Tryd.func112.trans (congrArg some (by kernel_rfl))
  f240 := Tryd.func125.trans (congrArg some (by kernel_rfl))
  f241 := Tryd.func131.trans (congrArg some (by kernel_rfl))
  f276 := Tryd.func128.trans (congrArg some (by kernel_rfl))
  f277 := Tryd.func136.trans (congrArg some (by kernel_rfl))
  t0 := Tryd.underlying0
  a0 := Tryd.isAgg0
  z0 := Tryd.sizeOf0
  v0 := Tryd.zeroValue0
  t3 := Tryd.underlying3
  a3 := Tryd.isAgg3
  z3 := Tryd.sizeOf3
  v3 := Tryd.zeroValue3
  t4 := Tryd.underlying4
  a4 := Tryd.isAgg4
  z4 := Tryd.sizeOf4
  v4 := Tryd.zeroValue4
  t9 := Tryd.underlying9
  a9 := Tryd.isAgg9
  z9 := Tryd.sizeOf9
  v9 := Tryd.zeroValue9
  t20 := Tryd.underlying20
  a20 := Tryd.isAgg20
  z20 := Tryd.sizeOf20
  v20 := Tryd.zeroValue20
  t31 := Tryd.underlying152
  a31 := Tryd.isAgg152
  z31 := Tryd.sizeOf152
  v31 := Tryd.zeroValue152
  t37 := Tryd.underlying143
  a37 := Tryd.isAgg143
  z37 := Tryd.sizeOf143
  v37 := Tryd.zeroValue143
  t70 := Tryd.underlying142
  a70 := Tryd.isAgg142
  z70 := Tryd.sizeOf142
  v70 := Tryd.zeroValue142
  t72 := Tryd.underlying145
  a72 := Tryd.isAgg145
  z72 := Tryd.sizeOf145
  v72 := Tryd.zeroValue145
  t75 := Tryd.underlying147
  a75 := Tryd.isAgg147
  z75 := Tryd.sizeOf147
  v75 := Tryd.zeroValue147
  t76 := Tryd.underlying148
  a76 := Tryd.isAgg148
  z76 := Tryd.sizeOf148
  v76 := Tryd.zeroValue148
  t127 := Tryd.underlying164
  a127 := Tryd.isAgg164
  z127 := Tryd.sizeOf164
  v127 := Tryd.zeroValue164
  t164 := Tryd.underlying166
  a164 := Tryd.isAgg166
  z164 := Tryd.sizeOf166
  v164 := Tryd.zeroValue166 }
theorem Tryd.Builder_Extra_156 : Builder.Extra Tryd.prog Tryd.lays156_ren := {
  sizeBuilder := by kernel_rfl
  liesBuilder := by kernel_rfl
  t5 := Tryd.underlying5
  a5 := Tryd.isAgg5
  z5 := Tryd.sizeOf5
  v5 := Tryd.zeroValue5
  infoByte := by kernel_rfl
  cellsByte := by kernel_rfl
  sizeByte := by kernel_rfl
  neB5 := by decide }
open Go.RowKit in
/-- No element: the empty string; the world is as it was. (Whatever the slice's address and capacity: a nil slice too.) (LAID: no walk: one application.) -/
theorem Tryd.strings_Join_none (a : Option Addr) (c : Nat) (sep : ByteArray) (w : World) :
    Calls Tryd.prog 126 #[.slice a 0 c, .string sep] w fun e w' => e = .returned (.string ⟨#[]⟩) ∧ w' = w := Any.strings_Join_none Tryd.lays156 Tryd.Builder_Extra_156 a c sep w
open Go.RowKit in
/-- strings.Join: "Join concatenates the elements of its first argument to create a single string. The separator string sep is placed between elements in the resulting string.": HOWEVER MANY ELEMENTS. Below the heap's end the world is as it was. (LAID: no walk: one application.) -/
theorem Tryd.strings_Join (bk o c : Nat) (xs : List ByteArray) (sep : ByteArray) (w : World) (hcells : ∀ (j : Nat) x, xs[j]? = some x → w.cell? ⟨bk, o + j, none⟩ = some (.string x)) (hbk : bk < w.heap.size) (hN : xs.length ≤ 140737488355328) (hcap : xs.length ≤ c) (hlen : (Lib.join (xs.map (·.data.toList)) sep.data.toList).length ≤ 140737488355328) :
    Calls Tryd.prog 126 #[.slice (some ⟨bk, o, none⟩) xs.length c, .string sep] w fun e w' => e = .returned (.string ⟨(Lib.join (xs.map (·.data.toList)) sep.data.toList).toArray⟩) ∧ Below w.heap.size w w' := Any.strings_Join Tryd.lays156 Tryd.Builder_Extra_156 bk o c xs sep w hcells hbk hN hcap hlen
def Tryd.lays129_ren : Go.Shelf.Ren := ⟨fun | 129 => 138 | n => n, fun | 53 => 171 | 3 => 3 | 4 => 4 | 46 => 132 | 5 => 5 | 9 => 9 | n => n, fun | n => n⟩
theorem Tryd.lays129 : Go.Proofs.Lays.n129 Tryd.prog Tryd.lays129_ren := {
  mixed := by kernel_rfl
  f129 := Tryd.func138.trans (congrArg some (by kernel_rfl))
  t3 := Tryd.underlying3
  a3 := Tryd.isAgg3
  z3 := Tryd.sizeOf3
  v3 := Tryd.zeroValue3
  t4 := Tryd.underlying4
  a4 := Tryd.isAgg4
  z4 := Tryd.sizeOf4
  v4 := Tryd.zeroValue4
  t5 := Tryd.underlying5
  a5 := Tryd.isAgg5
  z5 := Tryd.sizeOf5
  v5 := Tryd.zeroValue5
  t9 := Tryd.underlying9
  a9 := Tryd.isAgg9
  z9 := Tryd.sizeOf9
  v9 := Tryd.zeroValue9
  t46 := Tryd.underlying132
  a46 := Tryd.isAgg132
  z46 := Tryd.sizeOf132
  v46 := Tryd.zeroValue132
  t53 := Tryd.underlying171
  a53 := Tryd.isAgg171
  z53 := Tryd.sizeOf171
  v53 := Tryd.zeroValue171 }
/-- bits.Len64: "Len64 returns the minimum number of bits required to represent x; the result is 0 for x == 0.": IT RETURNS 'Lib.bitLen x'; the world is as it was. ('h0', 'h1': x is a uint64.) (LAID: no walk: one application.) -/
theorem Tryd.bits_Len64 (x : Int) (w : World) (h0 : 0 ≤ x) (h1 : x ≤ 18446744073709551615) :
    Calls Tryd.prog 138 #[.int .u64 x] w fun e w' => e = .returned (.int .i64 (Lib.bitLen x.toNat)) ∧ w' = w := Any.bits_Len64 Tryd.lays129 x w h0 h1
def Tryd.lays317_ren : Go.Shelf.Ren := ⟨fun | 317 => 137 | n => n, fun | 3 => 3 | 46 => 132 | n => n, fun | n => n⟩
theorem Tryd.lays317 : Go.Proofs.Lays.n317 Tryd.prog Tryd.lays317_ren := {
  mixed := by kernel_rfl
  f317 := Tryd.func137.trans (congrArg some (by kernel_rfl))
  t3 := Tryd.underlying3
  a3 := Tryd.isAgg3
  z3 := Tryd.sizeOf3
  v3 := Tryd.zeroValue3
  t46 := Tryd.underlying132
  a46 := Tryd.isAgg132
  z46 := Tryd.sizeOf132
  v46 := Tryd.zeroValue132 }
open Go.Lib in
/-- internal/strconv.log10Pow2: "log10Pow2(x) returns ⌊log₁₀ 2**x⌋ = ⌊x * log₁₀ 2⌋.": '(x * 78913) >> 18', at an x up to 64 (a length in bits). The world is as it was. (LAID: no walk: one application.) -/
theorem Tryd.internal_strconv_log10Pow2 (x : Nat) (h : x ≤ 64) (w : World) :
    Calls Tryd.prog 137 #[.int .i64 x] w fun e w' => e = .returned (.int .i64 (Lib.l10 x)) ∧ w' = w := Any.internal_strconv_log10Pow2 Tryd.lays317 x h w
def Tryd.lays318_ren : Go.Shelf.Ren := ⟨fun | 318 => 139 | n => n, fun | 3 => 3 | 4 => 4 | n => n, fun | n => n⟩
theorem Tryd.lays318 : Go.Proofs.Lays.n318 Tryd.prog Tryd.lays318_ren := {
  mixed := by kernel_rfl
  f318 := Tryd.func139.trans (congrArg some (by kernel_rfl))
  t3 := Tryd.underlying3
  a3 := Tryd.isAgg3
  z3 := Tryd.sizeOf3
  v3 := Tryd.zeroValue3
  t4 := Tryd.underlying4
  a4 := Tryd.isAgg4
  z4 := Tryd.sizeOf4
  v4 := Tryd.zeroValue4 }
open Go.Lib in
/-- internal/strconv.bool2: "bool2 converts b to an integer: 1 for true, 0 for false." The world is as it was. (LAID: no walk: one application.) -/
theorem Tryd.internal_strconv_bool2_int (b : Bool) (w : World) :
    Calls Tryd.prog 139 #[.bool b] w fun e w' => e = .returned (.int .i64 (if b then 1 else 0)) ∧ w' = w := Any.internal_strconv_bool2_int Tryd.lays318 b w
def Tryd.lays283_ren : Go.Shelf.Ren := ⟨fun | 283 => 132 | n => n, fun | 3 => 3 | 9 => 9 | 4 => 4 | n => n, fun | n => n⟩
theorem Tryd.lays283 : Go.Proofs.Lays.n283 Tryd.prog Tryd.lays283_ren := {
  mixed := by kernel_rfl
  f283 := Tryd.func132.trans (congrArg some (by kernel_rfl))
  t3 := Tryd.underlying3
  a3 := Tryd.isAgg3
  z3 := Tryd.sizeOf3
  v3 := Tryd.zeroValue3
  t4 := Tryd.underlying4
  a4 := Tryd.isAgg4
  z4 := Tryd.sizeOf4
  v4 := Tryd.zeroValue4
  t9 := Tryd.underlying9
  a9 := Tryd.isAgg9
  z9 := Tryd.sizeOf9
  v9 := Tryd.zeroValue9 }
open Go.Lib in
/-- internal/strconv.small: "small returns the string for an i with 0 <= i < nSmalls.": i's decimal numeral. The world is as it was. (LAID: no walk: one application.) -/
theorem Tryd.internal_strconv_small (i : Nat) (h : i < 100) (w : World) :
    Calls Tryd.prog 132 #[.int .i64 i] w fun e w' => e = .returned (.string ⟨(Lib.decDigits i).toArray⟩) ∧ w' = w := Any.internal_strconv_small Tryd.lays283 i h w
def Tryd.laysM284_ren : Go.Shelf.Ren := ⟨fun | 284 => 133 | 129 => 138 | 317 => 137 | 318 => 139 | n => n, fun | 53 => 171 | 3 => 3 | 212 => 179 | 0 => 0 | 4 => 4 | 46 => 132 | 5 => 5 | 9 => 9 | n => n, fun | 17 => 0 | n => n⟩
theorem Tryd.laysM284 : Go.Proofs.LaysM.n284 Tryd.prog Tryd.laysM284_ren := {
  mixed := by kernel_rfl
  f129 := Tryd.func138.trans (congrArg some (by kernel_rfl))
  f284 := Tryd.func133.trans (congrArg some (by kernel_rfl))
  f317 := Tryd.func137.trans (congrArg some (by kernel_rfl))
  f318 := Tryd.func139.trans (congrArg some (by kernel_rfl))
  t0 := Tryd.underlying0
  a0 := Tryd.isAgg0
  z0 := Tryd.sizeOf0
  v0 := Tryd.zeroValue0
  t3 := Tryd.underlying3
  a3 := Tryd.isAgg3
  z3 := Tryd.sizeOf3
  v3 := Tryd.zeroValue3
  t4 := Tryd.underlying4
  a4 := Tryd.isAgg4
  z4 := Tryd.sizeOf4
  v4 := Tryd.zeroValue4
  t5 := Tryd.underlying5
  a5 := Tryd.isAgg5
  z5 := Tryd.sizeOf5
  v5 := Tryd.zeroValue5
  t9 := Tryd.underlying9
  a9 := Tryd.isAgg9
  z9 := Tryd.sizeOf9
  v9 := Tryd.zeroValue9
  t46 := Tryd.underlying132
  a46 := Tryd.isAgg132
  z46 := Tryd.sizeOf132
  v46 := Tryd.zeroValue132
  t53 := Tryd.underlying171
  a53 := Tryd.isAgg171
  z53 := Tryd.sizeOf171
  v53 := Tryd.zeroValue171
  t212 := Tryd.underlying179
  a212 := Tryd.isAgg179
  z212 := Tryd.sizeOf179
  v212 := Tryd.zeroValue179
  g17 := by kernel_rfl
  i0 := by kernel_rfl
  i3 := by kernel_rfl
  i4 := by kernel_rfl
  i5 := by kernel_rfl
  i9 := by kernel_rfl
  i46 := by kernel_rfl
  i53 := by kernel_rfl
  i212 := by kernel_rfl
  m17 := by kernel_rfl }
open Go.Lib in
/-- internal/strconv.numDigits, at a d that is not 0: THE NUMBER OF d's DECIMAL DIGITS. The world is as it was. (LAID: no walk: one application.) -/
theorem Tryd.internal_strconv_numDigits (u : Nat) (h1 : 1 ≤ u) (h2 : u < 18446744073709551616) (w : World) (htab : Lib.TabIs Tryd.prog w "internal/strconv.uint64pow10" .u64 Lib.pow10Tab) :
    Calls Tryd.prog 133 #[.int .u64 u] w fun e w' => e = .returned (.int .i64 (Lib.nDigits u)) ∧ w' = w := Any.internal_strconv_numDigits Tryd.laysM284 u h1 h2 w htab
def Tryd.lays285_ren : Go.Shelf.Ren := ⟨fun | 285 => 134 | n => n, fun | 37 => 143 | 53 => 171 | 3 => 3 | 4 => 4 | 51 => 180 | 9 => 9 | 5 => 5 | 0 => 0 | n => n, fun | n => n⟩
theorem Tryd.lays285 : Go.Proofs.Lays.n285 Tryd.prog Tryd.lays285_ren := {
  mixed := by kernel_rfl
  f285 := Tryd.func134.trans (congrArg some (by kernel_rfl))
  t0 := Tryd.underlying0
  a0 := Tryd.isAgg0
  z0 := Tryd.sizeOf0
  v0 := Tryd.zeroValue0
  t3 := Tryd.underlying3
  a3 := Tryd.isAgg3
  z3 := Tryd.sizeOf3
  v3 := Tryd.zeroValue3
  t4 := Tryd.underlying4
  a4 := Tryd.isAgg4
  z4 := Tryd.sizeOf4
  v4 := Tryd.zeroValue4
  t5 := Tryd.underlying5
  a5 := Tryd.isAgg5
  z5 := Tryd.sizeOf5
  v5 := Tryd.zeroValue5
  t9 := Tryd.underlying9
  a9 := Tryd.isAgg9
  z9 := Tryd.sizeOf9
  v9 := Tryd.zeroValue9
  t37 := Tryd.underlying143
  a37 := Tryd.isAgg143
  z37 := Tryd.sizeOf143
  v37 := Tryd.zeroValue143
  t51 := Tryd.underlying180
  a51 := Tryd.isAgg180
  z51 := Tryd.sizeOf180
  v51 := Tryd.zeroValue180
  t53 := Tryd.underlying171
  a53 := Tryd.isAgg171
  z53 := Tryd.sizeOf171
  v53 := Tryd.zeroValue171 }
open Go.RowKit Go.Sort Go.Lib in
/-- internal/strconv.formatBase10: "formatBase10 formats the decimal representation of u into a. The caller is responsible for ensuring that a is big enough to hold u. If a is too big, leading zeros will be filled in as needed.": THE ROW HOLDS u's DIGITS ('FmtInv .. 0 ..': every place t holds 'dg u (len - 1 - t)'); all else is as it was but for the count of draws. (LAID: no walk: one application.) -/
theorem Tryd.internal_strconv_formatBase10 (blk off cap : Nat) (u : Nat) (d : Array UInt8) (w : World) (hH : Holds (fun (b : UInt8) => Value.int .u8 (b.toNat : Int)) w blk off d) (hu : u < 10 ^ d.size) (hu64 : u < 18446744073709551616) (hsz : d.size < 4611686018427387904) :
    Calls Tryd.prog 134 #[.slice (some ⟨blk, off, none⟩) d.size cap, .int .u64 u] w fun e w' =>
      e = .returned (.tuple #[]) ∧ ∃ (n v' : Nat) (dk : Array UInt8), w' = (putRow (fun (b : UInt8) => Value.int .u8 (b.toNat : Int)) w blk off dk).drewN n ∧ FmtInv d.size u 0 v' dk := Any.internal_strconv_formatBase10 Tryd.lays285 blk off cap u d w hH hu hu64 hsz
def Tryd.laysM246_ren : Go.Shelf.Ren := ⟨fun | 246 => 130 | 283 => 132 | 284 => 133 | 285 => 134 | 286 => 135 | 129 => 138 | 317 => 137 | 318 => 139 | 319 => 140 | 320 => 141 | 337 => 142 | 338 => 143 | n => n, fun | 2 => 2 | 3 => 3 | 9 => 9 | 4 => 4 | 171 => 170 | 0 => 0 | 53 => 171 | 37 => 143 | 5 => 5 | 173 => 174 | 212 => 179 | 51 => 180 | 20 => 20 | 213 => 181 | 46 => 132 | 232 => 184 | 233 => 185 | n => n, fun | 17 => 0 | 18 => 2 | 19 => 3 | n => n⟩
theorem Tryd.laysM246 : Go.Proofs.LaysM.n246 Tryd.prog Tryd.laysM246_ren := {
  mixed := by kernel_rfl
  f129 := Tryd.func138.trans (congrArg some (by kernel_rfl))
  f246 := Tryd.func130.trans (congrArg some (by kernel_rfl))
  f283 := Tryd.func132.trans (congrArg some (by kernel_rfl))
  f284 := Tryd.func133.trans (congrArg some (by kernel_rfl))
  f285 := Tryd.func134.trans (congrArg some (by kernel_rfl))
  f286 := Tryd.func135.trans (congrArg some (by kernel_rfl))
  f317 := Tryd.func137.trans (congrArg some (by kernel_rfl))
  f318 := Tryd.func139.trans (congrArg some (by kernel_rfl))
  f319 := Tryd.func140.trans (congrArg some (by kernel_rfl))
  f320 := Tryd.func141.trans (congrArg some (by kernel_rfl))
  f337 := Tryd.func142.trans (congrArg some (by kernel_rfl))
  f338 := Tryd.func143.trans (congrArg some (by kernel_rfl))
  t0 := Tryd.underlying0
  a0 := Tryd.isAgg0
  z0 := Tryd.sizeOf0
  v0 := Tryd.zeroValue0
  t2 := Tryd.underlying2
  a2 := Tryd.isAgg2
  z2 := Tryd.sizeOf2
  v2 := Tryd.zeroValue2
  t3 := Tryd.underlying3
  a3 := Tryd.isAgg3
  z3 := Tryd.sizeOf3
  v3 := Tryd.zeroValue3
  t4 := Tryd.underlying4
  a4 := Tryd.isAgg4
  z4 := Tryd.sizeOf4
  v4 := Tryd.zeroValue4
  t5 := Tryd.underlying5
  a5 := Tryd.isAgg5
  z5 := Tryd.sizeOf5
  v5 := Tryd.zeroValue5
  t9 := Tryd.underlying9
  a9 := Tryd.isAgg9
  z9 := Tryd.sizeOf9
  v9 := Tryd.zeroValue9
  t20 := Tryd.underlying20
  a20 := Tryd.isAgg20
  z20 := Tryd.sizeOf20
  v20 := Tryd.zeroValue20
  t37 := Tryd.underlying143
  a37 := Tryd.isAgg143
  z37 := Tryd.sizeOf143
  v37 := Tryd.zeroValue143
  t46 := Tryd.underlying132
  a46 := Tryd.isAgg132
  z46 := Tryd.sizeOf132
  v46 := Tryd.zeroValue132
  t51 := Tryd.underlying180
  a51 := Tryd.isAgg180
  z51 := Tryd.sizeOf180
  v51 := Tryd.zeroValue180
  t53 := Tryd.underlying171
  a53 := Tryd.isAgg171
  z53 := Tryd.sizeOf171
  v53 := Tryd.zeroValue171
  t171 := Tryd.underlying170
  a171 := Tryd.isAgg170
  z171 := Tryd.sizeOf170
  v171 := Tryd.zeroValue170
  t173 := Tryd.underlying174
  a173 := Tryd.isAgg174
  z173 := Tryd.sizeOf174
  v173 := Tryd.zeroValue174
  t212 := Tryd.underlying179
  a212 := Tryd.isAgg179
  z212 := Tryd.sizeOf179
  v212 := Tryd.zeroValue179
  t213 := Tryd.underlying181
  a213 := Tryd.isAgg181
  z213 := Tryd.sizeOf181
  t232 := Tryd.underlying184
  a232 := Tryd.isAgg184
  z232 := Tryd.sizeOf184
  v232 := Tryd.zeroValue184
  t233 := Tryd.underlying185
  a233 := Tryd.isAgg185
  z233 := Tryd.sizeOf185
  v233 := Tryd.zeroValue185
  g17 := by kernel_rfl
  g18 := by kernel_rfl
  g19 := by kernel_rfl
  i0 := by kernel_rfl
  i2 := by kernel_rfl
  i3 := by kernel_rfl
  i4 := by kernel_rfl
  i5 := by kernel_rfl
  i9 := by kernel_rfl
  i20 := by kernel_rfl
  i37 := by kernel_rfl
  i46 := by kernel_rfl
  i51 := by kernel_rfl
  i53 := by kernel_rfl
  i171 := by kernel_rfl
  i173 := by kernel_rfl
  i212 := by kernel_rfl
  i232 := by kernel_rfl
  i233 := by kernel_rfl
  m17 := by kernel_rfl
  m18 := by kernel_rfl
  m19 := by kernel_rfl }
open Go.RowKit Go.Sort Go.Lib in
/-- internal/strconv.FormatInt: "FormatInt returns the string representation of i in the given base": AT BASE 10: i's decimal numeral, for every int64. The world behind the call: the world before it, new blocks behind the heap, draws. (LAID: no walk: one application.) -/
theorem Tryd.internal_strconv_FormatInt_10 (n : Int) (h0 : -9223372036854775808 ≤ n) (h1 : n ≤ 9223372036854775807) (w : World) (htab : Lib.TabIs Tryd.prog w "internal/strconv.uint64pow10" .u64 Lib.pow10Tab) :
    Calls Tryd.prog 130 #[.int .i64 n, .int .i64 10] w fun e w' => e = .returned (.string ⟨(Lib.itoa n).toArray⟩) ∧ ∃ k os, w' = grow (w.drewN k) os := Any.internal_strconv_FormatInt_10 Tryd.laysM246 n h0 h1 w htab
def Tryd.lays246_ren : Go.Shelf.Ren := ⟨fun | 246 => 130 | 283 => 132 | 284 => 133 | 285 => 134 | 286 => 135 | 129 => 138 | 317 => 137 | 318 => 139 | 319 => 140 | 320 => 141 | 337 => 142 | 338 => 143 | n => n, fun | 2 => 2 | 3 => 3 | 9 => 9 | 4 => 4 | 171 => 170 | 0 => 0 | 53 => 171 | 37 => 143 | 5 => 5 | 173 => 174 | 212 => 179 | 51 => 180 | 20 => 20 | 213 => 181 | 46 => 132 | 232 => 184 | 233 => 185 | n => n, fun | 17 => 0 | 18 => 2 | 19 => 3 | n => n⟩
theorem Tryd.lays246 : Go.Proofs.Lays.n246 Tryd.prog Tryd.lays246_ren := {
  mixed := by kernel_rfl
  f129 := Tryd.func138.trans (congrArg some (by kernel_rfl))
  f246 := Tryd.func130.trans (congrArg some (by kernel_rfl))
  f283 := Tryd.func132.trans (congrArg some (by kernel_rfl))
  f284 := Tryd.func133.trans (congrArg some (by kernel_rfl))
  f285 := Tryd.func134.trans (congrArg some (by kernel_rfl))
  f286 := Tryd.func135.trans (congrArg some (by kernel_rfl))
  f317 := Tryd.func137.trans (congrArg some (by kernel_rfl))
  f318 := Tryd.func139.trans (congrArg some (by kernel_rfl))
  f319 := Tryd.func140.trans (congrArg some (by kernel_rfl))
  f320 := Tryd.func141.trans (congrArg some (by kernel_rfl))
  f337 := Tryd.func142.trans (congrArg some (by kernel_rfl))
  f338 := Tryd.func143.trans (congrArg some (by kernel_rfl))
  t0 := Tryd.underlying0
  a0 := Tryd.isAgg0
  z0 := Tryd.sizeOf0
  v0 := Tryd.zeroValue0
  t2 := Tryd.underlying2
  a2 := Tryd.isAgg2
  z2 := Tryd.sizeOf2
  v2 := Tryd.zeroValue2
  t3 := Tryd.underlying3
  a3 := Tryd.isAgg3
  z3 := Tryd.sizeOf3
  v3 := Tryd.zeroValue3
  t4 := Tryd.underlying4
  a4 := Tryd.isAgg4
  z4 := Tryd.sizeOf4
  v4 := Tryd.zeroValue4
  t5 := Tryd.underlying5
  a5 := Tryd.isAgg5
  z5 := Tryd.sizeOf5
  v5 := Tryd.zeroValue5
  t9 := Tryd.underlying9
  a9 := Tryd.isAgg9
  z9 := Tryd.sizeOf9
  v9 := Tryd.zeroValue9
  t20 := Tryd.underlying20
  a20 := Tryd.isAgg20
  z20 := Tryd.sizeOf20
  v20 := Tryd.zeroValue20
  t37 := Tryd.underlying143
  a37 := Tryd.isAgg143
  z37 := Tryd.sizeOf143
  v37 := Tryd.zeroValue143
  t46 := Tryd.underlying132
  a46 := Tryd.isAgg132
  z46 := Tryd.sizeOf132
  v46 := Tryd.zeroValue132
  t51 := Tryd.underlying180
  a51 := Tryd.isAgg180
  z51 := Tryd.sizeOf180
  v51 := Tryd.zeroValue180
  t53 := Tryd.underlying171
  a53 := Tryd.isAgg171
  z53 := Tryd.sizeOf171
  v53 := Tryd.zeroValue171
  t171 := Tryd.underlying170
  a171 := Tryd.isAgg170
  z171 := Tryd.sizeOf170
  v171 := Tryd.zeroValue170
  t173 := Tryd.underlying174
  a173 := Tryd.isAgg174
  z173 := Tryd.sizeOf174
  v173 := Tryd.zeroValue174
  t212 := Tryd.underlying179
  a212 := Tryd.isAgg179
  z212 := Tryd.sizeOf179
  v212 := Tryd.zeroValue179
  t213 := Tryd.underlying181
  a213 := Tryd.isAgg181
  z213 := Tryd.sizeOf181
  t232 := Tryd.underlying184
  a232 := Tryd.isAgg184
  z232 := Tryd.sizeOf184
  v232 := Tryd.zeroValue184
  t233 := Tryd.underlying185
  a233 := Tryd.isAgg185
  z233 := Tryd.sizeOf185
  v233 := Tryd.zeroValue185
  g17 := by kernel_rfl
  g18 := by kernel_rfl
  g19 := by kernel_rfl }
open Go.RowKit Go.Sort Go.Lib in
/-- THE ROAD WITHOUT THE TABLE: 0 <= i < 100: two constants are read, nothing is laid: no premise on the world, and the world is as it was. (LAID: no walk: one application.) -/
theorem Tryd.internal_strconv_FormatInt_10_small (i : Nat) (hi : i < 100) (w : World) :
    Calls Tryd.prog 130 #[.int .i64 i, .int .i64 10] w fun e w' => e = .returned (.string ⟨(Lib.decDigits i).toArray⟩) ∧ w' = w := Any.internal_strconv_FormatInt_10_small Tryd.lays246 i hi w
def Tryd.laysM243_ren : Go.Shelf.Ren := ⟨fun | 243 => 127 | 246 => 130 | 283 => 132 | 284 => 133 | 285 => 134 | 286 => 135 | 129 => 138 | 317 => 137 | 318 => 139 | 319 => 140 | 320 => 141 | 337 => 142 | 338 => 143 | n => n, fun | 3 => 3 | 9 => 9 | 2 => 2 | 4 => 4 | 171 => 170 | 0 => 0 | 53 => 171 | 37 => 143 | 5 => 5 | 173 => 174 | 212 => 179 | 51 => 180 | 20 => 20 | 213 => 181 | 46 => 132 | 232 => 184 | 233 => 185 | n => n, fun | 17 => 0 | 18 => 2 | 19 => 3 | n => n⟩
theorem Tryd.laysM243 : Go.Proofs.LaysM.n243 Tryd.prog Tryd.laysM243_ren := {
  mixed := by kernel_rfl
  f129 := Tryd.func138.trans (congrArg some (by kernel_rfl))
  f243 := Tryd.func127.trans (congrArg some (by kernel_rfl))
  f246 := Tryd.func130.trans (congrArg some (by kernel_rfl))
  f283 := Tryd.func132.trans (congrArg some (by kernel_rfl))
  f284 := Tryd.func133.trans (congrArg some (by kernel_rfl))
  f285 := Tryd.func134.trans (congrArg some (by kernel_rfl))
  f286 := Tryd.func135.trans (congrArg some (by kernel_rfl))
  f317 := Tryd.func137.trans (congrArg some (by kernel_rfl))
  f318 := Tryd.func139.trans (congrArg some (by kernel_rfl))
  f319 := Tryd.func140.trans (congrArg some (by kernel_rfl))
  f320 := Tryd.func141.trans (congrArg some (by kernel_rfl))
  f337 := Tryd.func142.trans (congrArg some (by kernel_rfl))
  f338 := Tryd.func143.trans (congrArg some (by kernel_rfl))
  t0 := Tryd.underlying0
  a0 := Tryd.isAgg0
  z0 := Tryd.sizeOf0
  v0 := Tryd.zeroValue0
  t2 := Tryd.underlying2
  a2 := Tryd.isAgg2
  z2 := Tryd.sizeOf2
  v2 := Tryd.zeroValue2
  t3 := Tryd.underlying3
  a3 := Tryd.isAgg3
  z3 := Tryd.sizeOf3
  v3 := Tryd.zeroValue3
  t4 := Tryd.underlying4
  a4 := Tryd.isAgg4
  z4 := Tryd.sizeOf4
  v4 := Tryd.zeroValue4
  t5 := Tryd.underlying5
  a5 := Tryd.isAgg5
  z5 := Tryd.sizeOf5
  v5 := Tryd.zeroValue5
  t9 := Tryd.underlying9
  a9 := Tryd.isAgg9
  z9 := Tryd.sizeOf9
  v9 := Tryd.zeroValue9
  t20 := Tryd.underlying20
  a20 := Tryd.isAgg20
  z20 := Tryd.sizeOf20
  v20 := Tryd.zeroValue20
  t37 := Tryd.underlying143
  a37 := Tryd.isAgg143
  z37 := Tryd.sizeOf143
  v37 := Tryd.zeroValue143
  t46 := Tryd.underlying132
  a46 := Tryd.isAgg132
  z46 := Tryd.sizeOf132
  v46 := Tryd.zeroValue132
  t51 := Tryd.underlying180
  a51 := Tryd.isAgg180
  z51 := Tryd.sizeOf180
  v51 := Tryd.zeroValue180
  t53 := Tryd.underlying171
  a53 := Tryd.isAgg171
  z53 := Tryd.sizeOf171
  v53 := Tryd.zeroValue171
  t171 := Tryd.underlying170
  a171 := Tryd.isAgg170
  z171 := Tryd.sizeOf170
  v171 := Tryd.zeroValue170
  t173 := Tryd.underlying174
  a173 := Tryd.isAgg174
  z173 := Tryd.sizeOf174
  v173 := Tryd.zeroValue174
  t212 := Tryd.underlying179
  a212 := Tryd.isAgg179
  z212 := Tryd.sizeOf179
  v212 := Tryd.zeroValue179
  t213 := Tryd.underlying181
  a213 := Tryd.isAgg181
  z213 := Tryd.sizeOf181
  t232 := Tryd.underlying184
  a232 := Tryd.isAgg184
  z232 := Tryd.sizeOf184
  v232 := Tryd.zeroValue184
  t233 := Tryd.underlying185
  a233 := Tryd.isAgg185
  z233 := Tryd.sizeOf185
  v233 := Tryd.zeroValue185
  g17 := by kernel_rfl
  g18 := by kernel_rfl
  g19 := by kernel_rfl
  i0 := by kernel_rfl
  i2 := by kernel_rfl
  i3 := by kernel_rfl
  i4 := by kernel_rfl
  i5 := by kernel_rfl
  i9 := by kernel_rfl
  i20 := by kernel_rfl
  i37 := by kernel_rfl
  i46 := by kernel_rfl
  i51 := by kernel_rfl
  i53 := by kernel_rfl
  i171 := by kernel_rfl
  i173 := by kernel_rfl
  i212 := by kernel_rfl
  i232 := by kernel_rfl
  i233 := by kernel_rfl
  m17 := by kernel_rfl
  m18 := by kernel_rfl
  m19 := by kernel_rfl }
open Go.RowKit Go.Sort Go.Lib in
/-- internal/strconv.Itoa: "Itoa is equivalent to FormatInt(int64(i), 10).": i's decimal numeral, for every int. (LAID: no walk: one application.) -/
theorem Tryd.internal_strconv_Itoa (n : Int) (h0 : -9223372036854775808 ≤ n) (h1 : n ≤ 9223372036854775807) (w : World) (htab : Lib.TabIs Tryd.prog w "internal/strconv.uint64pow10" .u64 Lib.pow10Tab) :
    Calls Tryd.prog 127 #[.int .i64 n] w fun e w' => e = .returned (.string ⟨(Lib.itoa n).toArray⟩) ∧ ∃ k os, w' = grow (w.drewN k) os := Any.internal_strconv_Itoa Tryd.laysM243 n h0 h1 w htab
def Tryd.lays243_ren : Go.Shelf.Ren := ⟨fun | 243 => 127 | 246 => 130 | 283 => 132 | 284 => 133 | 285 => 134 | 286 => 135 | 129 => 138 | 317 => 137 | 318 => 139 | 319 => 140 | 320 => 141 | 337 => 142 | 338 => 143 | n => n, fun | 3 => 3 | 9 => 9 | 2 => 2 | 4 => 4 | 171 => 170 | 0 => 0 | 53 => 171 | 37 => 143 | 5 => 5 | 173 => 174 | 212 => 179 | 51 => 180 | 20 => 20 | 213 => 181 | 46 => 132 | 232 => 184 | 233 => 185 | n => n, fun | 17 => 0 | 18 => 2 | 19 => 3 | n => n⟩
theorem Tryd.lays243 : Go.Proofs.Lays.n243 Tryd.prog Tryd.lays243_ren := {
  mixed := by kernel_rfl
  f129 := Tryd.func138.trans (congrArg some (by kernel_rfl))
  f243 := Tryd.func127.trans (congrArg some (by kernel_rfl))
  f246 := Tryd.func130.trans (congrArg some (by kernel_rfl))
  f283 := Tryd.func132.trans (congrArg some (by kernel_rfl))
  f284 := Tryd.func133.trans (congrArg some (by kernel_rfl))
  f285 := Tryd.func134.trans (congrArg some (by kernel_rfl))
  f286 := Tryd.func135.trans (congrArg some (by kernel_rfl))
  f317 := Tryd.func137.trans (congrArg some (by kernel_rfl))
  f318 := Tryd.func139.trans (congrArg some (by kernel_rfl))
  f319 := Tryd.func140.trans (congrArg some (by kernel_rfl))
  f320 := Tryd.func141.trans (congrArg some (by kernel_rfl))
  f337 := Tryd.func142.trans (congrArg some (by kernel_rfl))
  f338 := Tryd.func143.trans (congrArg some (by kernel_rfl))
  t0 := Tryd.underlying0
  a0 := Tryd.isAgg0
  z0 := Tryd.sizeOf0
  v0 := Tryd.zeroValue0
  t2 := Tryd.underlying2
  a2 := Tryd.isAgg2
  z2 := Tryd.sizeOf2
  v2 := Tryd.zeroValue2
  t3 := Tryd.underlying3
  a3 := Tryd.isAgg3
  z3 := Tryd.sizeOf3
  v3 := Tryd.zeroValue3
  t4 := Tryd.underlying4
  a4 := Tryd.isAgg4
  z4 := Tryd.sizeOf4
  v4 := Tryd.zeroValue4
  t5 := Tryd.underlying5
  a5 := Tryd.isAgg5
  z5 := Tryd.sizeOf5
  v5 := Tryd.zeroValue5
  t9 := Tryd.underlying9
  a9 := Tryd.isAgg9
  z9 := Tryd.sizeOf9
  v9 := Tryd.zeroValue9
  t20 := Tryd.underlying20
  a20 := Tryd.isAgg20
  z20 := Tryd.sizeOf20
  v20 := Tryd.zeroValue20
  t37 := Tryd.underlying143
  a37 := Tryd.isAgg143
  z37 := Tryd.sizeOf143
  v37 := Tryd.zeroValue143
  t46 := Tryd.underlying132
  a46 := Tryd.isAgg132
  z46 := Tryd.sizeOf132
  v46 := Tryd.zeroValue132
  t51 := Tryd.underlying180
  a51 := Tryd.isAgg180
  z51 := Tryd.sizeOf180
  v51 := Tryd.zeroValue180
  t53 := Tryd.underlying171
  a53 := Tryd.isAgg171
  z53 := Tryd.sizeOf171
  v53 := Tryd.zeroValue171
  t171 := Tryd.underlying170
  a171 := Tryd.isAgg170
  z171 := Tryd.sizeOf170
  v171 := Tryd.zeroValue170
  t173 := Tryd.underlying174
  a173 := Tryd.isAgg174
  z173 := Tryd.sizeOf174
  v173 := Tryd.zeroValue174
  t212 := Tryd.underlying179
  a212 := Tryd.isAgg179
  z212 := Tryd.sizeOf179
  v212 := Tryd.zeroValue179
  t213 := Tryd.underlying181
  a213 := Tryd.isAgg181
  z213 := Tryd.sizeOf181
  t232 := Tryd.underlying184
  a232 := Tryd.isAgg184
  z232 := Tryd.sizeOf184
  v232 := Tryd.zeroValue184
  t233 := Tryd.underlying185
  a233 := Tryd.isAgg185
  z233 := Tryd.sizeOf185
  v233 := Tryd.zeroValue185
  g17 := by kernel_rfl
  g18 := by kernel_rfl
  g19 := by kernel_rfl }
open Go.RowKit Go.Sort Go.Lib in
/-- THE ROAD WITHOUT THE TABLE: 0 <= i < 100. (LAID: no walk: one application.) -/
theorem Tryd.internal_strconv_Itoa_small (i : Nat) (hi : i < 100) (w : World) :
    Calls Tryd.prog 127 #[.int .i64 i] w fun e w' => e = .returned (.string ⟨(Lib.decDigits i).toArray⟩) ∧ w' = w := Any.internal_strconv_Itoa_small Tryd.lays243 i hi w
def Tryd.laysM171_ren : Go.Shelf.Ren := ⟨fun | 171 => 110 | 243 => 127 | 246 => 130 | 283 => 132 | 284 => 133 | 285 => 134 | 286 => 135 | 129 => 138 | 317 => 137 | 318 => 139 | 319 => 140 | 320 => 141 | 337 => 142 | 338 => 143 | n => n, fun | 3 => 3 | 9 => 9 | 2 => 2 | 4 => 4 | 171 => 170 | 0 => 0 | 53 => 171 | 37 => 143 | 5 => 5 | 173 => 174 | 212 => 179 | 51 => 180 | 20 => 20 | 213 => 181 | 46 => 132 | 232 => 184 | 233 => 185 | n => n, fun | 17 => 0 | 18 => 2 | 19 => 3 | n => n⟩
theorem Tryd.laysM171 : Go.Proofs.LaysM.n171 Tryd.prog Tryd.laysM171_ren := {
  mixed := by kernel_rfl
  f129 := Tryd.func138.trans (congrArg some (by kernel_rfl))
  f171 := Tryd.func110.trans (congrArg some (by kernel_rfl))
  f243 := Tryd.func127.trans (congrArg some (by kernel_rfl))
  f246 := Tryd.func130.trans (congrArg some (by kernel_rfl))
  f283 := Tryd.func132.trans (congrArg some (by kernel_rfl))
  f284 := Tryd.func133.trans (congrArg some (by kernel_rfl))
  f285 := Tryd.func134.trans (congrArg some (by kernel_rfl))
  f286 := Tryd.func135.trans (congrArg some (by kernel_rfl))
  f317 := Tryd.func137.trans (congrArg some (by kernel_rfl))
  f318 := Tryd.func139.trans (congrArg some (by kernel_rfl))
  f319 := Tryd.func140.trans (congrArg some (by kernel_rfl))
  f320 := Tryd.func141.trans (congrArg some (by kernel_rfl))
  f337 := Tryd.func142.trans (congrArg some (by kernel_rfl))
  f338 := Tryd.func143.trans (congrArg some (by kernel_rfl))
  t0 := Tryd.underlying0
  a0 := Tryd.isAgg0
  z0 := Tryd.sizeOf0
  v0 := Tryd.zeroValue0
  t2 := Tryd.underlying2
  a2 := Tryd.isAgg2
  z2 := Tryd.sizeOf2
  v2 := Tryd.zeroValue2
  t3 := Tryd.underlying3
  a3 := Tryd.isAgg3
  z3 := Tryd.sizeOf3
  v3 := Tryd.zeroValue3
  t4 := Tryd.underlying4
  a4 := Tryd.isAgg4
  z4 := Tryd.sizeOf4
  v4 := Tryd.zeroValue4
  t5 := Tryd.underlying5
  a5 := Tryd.isAgg5
  z5 := Tryd.sizeOf5
  v5 := Tryd.zeroValue5
  t9 := Tryd.underlying9
  a9 := Tryd.isAgg9
  z9 := Tryd.sizeOf9
  v9 := Tryd.zeroValue9
  t20 := Tryd.underlying20
  a20 := Tryd.isAgg20
  z20 := Tryd.sizeOf20
  v20 := Tryd.zeroValue20
  t37 := Tryd.underlying143
  a37 := Tryd.isAgg143
  z37 := Tryd.sizeOf143
  v37 := Tryd.zeroValue143
  t46 := Tryd.underlying132
  a46 := Tryd.isAgg132
  z46 := Tryd.sizeOf132
  v46 := Tryd.zeroValue132
  t51 := Tryd.underlying180
  a51 := Tryd.isAgg180
  z51 := Tryd.sizeOf180
  v51 := Tryd.zeroValue180
  t53 := Tryd.underlying171
  a53 := Tryd.isAgg171
  z53 := Tryd.sizeOf171
  v53 := Tryd.zeroValue171
  t171 := Tryd.underlying170
  a171 := Tryd.isAgg170
  z171 := Tryd.sizeOf170
  v171 := Tryd.zeroValue170
  t173 := Tryd.underlying174
  a173 := Tryd.isAgg174
  z173 := Tryd.sizeOf174
  v173 := Tryd.zeroValue174
  t212 := Tryd.underlying179
  a212 := Tryd.isAgg179
  z212 := Tryd.sizeOf179
  v212 := Tryd.zeroValue179
  t213 := Tryd.underlying181
  a213 := Tryd.isAgg181
  z213 := Tryd.sizeOf181
  t232 := Tryd.underlying184
  a232 := Tryd.isAgg184
  z232 := Tryd.sizeOf184
  v232 := Tryd.zeroValue184
  t233 := Tryd.underlying185
  a233 := Tryd.isAgg185
  z233 := Tryd.sizeOf185
  v233 := Tryd.zeroValue185
  g17 := by kernel_rfl
  g18 := by kernel_rfl
  g19 := by kernel_rfl
  i0 := by kernel_rfl
  i2 := by kernel_rfl
  i3 := by kernel_rfl
  i4 := by kernel_rfl
  i5 := by kernel_rfl
  i9 := by kernel_rfl
  i20 := by kernel_rfl
  i37 := by kernel_rfl
  i46 := by kernel_rfl
  i51 := by kernel_rfl
  i53 := by kernel_rfl
  i171 := by kernel_rfl
  i173 := by kernel_rfl
  i212 := by kernel_rfl
  i232 := by kernel_rfl
  i233 := by kernel_rfl
  m17 := by kernel_rfl
  m18 := by kernel_rfl
  m19 := by kernel_rfl }
open Go.RowKit Go.Sort Go.Lib in
/-- strconv.Itoa: "Itoa is equivalent to FormatInt(int64(i), 10).": i's DECIMAL NUMERAL ('Lib.itoa': a '-' where i is negative, then the digits), FOR EVERY int. The world behind the call: the world before it, new blocks behind the heap (the library's 'var a [24]byte'), draws. (LAID: no walk: one application.) -/
theorem Tryd.strconv_Itoa (n : Int) (h0 : -9223372036854775808 ≤ n) (h1 : n ≤ 9223372036854775807) (w : World) (htab : Lib.TabIs Tryd.prog w "internal/strconv.uint64pow10" .u64 Lib.pow10Tab) :
    Calls Tryd.prog 110 #[.int .i64 n] w fun e w' => e = .returned (.string ⟨(Lib.itoa n).toArray⟩) ∧ ∃ k os, w' = grow (w.drewN k) os := Any.strconv_Itoa Tryd.laysM171 n h0 h1 w htab
def Tryd.lays171_ren : Go.Shelf.Ren := ⟨fun | 171 => 110 | 243 => 127 | 246 => 130 | 283 => 132 | 284 => 133 | 285 => 134 | 286 => 135 | 129 => 138 | 317 => 137 | 318 => 139 | 319 => 140 | 320 => 141 | 337 => 142 | 338 => 143 | n => n, fun | 3 => 3 | 9 => 9 | 2 => 2 | 4 => 4 | 171 => 170 | 0 => 0 | 53 => 171 | 37 => 143 | 5 => 5 | 173 => 174 | 212 => 179 | 51 => 180 | 20 => 20 | 213 => 181 | 46 => 132 | 232 => 184 | 233 => 185 | n => n, fun | 17 => 0 | 18 => 2 | 19 => 3 | n => n⟩
theorem Tryd.lays171 : Go.Proofs.Lays.n171 Tryd.prog Tryd.lays171_ren := {
  mixed := by kernel_rfl
  f129 := Tryd.func138.trans (congrArg some (by kernel_rfl))
  f171 := Tryd.func110.trans (congrArg some (by kernel_rfl))
  f243 := Tryd.func127.trans (congrArg some (by kernel_rfl))
  f246 := Tryd.func130.trans (congrArg some (by kernel_rfl))
  f283 := Tryd.func132.trans (congrArg some (by kernel_rfl))
  f284 := Tryd.func133.trans (congrArg some (by kernel_rfl))
  f285 := Tryd.func134.trans (congrArg some (by kernel_rfl))
  f286 := Tryd.func135.trans (congrArg some (by kernel_rfl))
  f317 := Tryd.func137.trans (congrArg some (by kernel_rfl))
  f318 := Tryd.func139.trans (congrArg some (by kernel_rfl))
  f319 := Tryd.func140.trans (congrArg some (by kernel_rfl))
  f320 := Tryd.func141.trans (congrArg some (by kernel_rfl))
  f337 := Tryd.func142.trans (congrArg some (by kernel_rfl))
  f338 := Tryd.func143.trans (congrArg some (by kernel_rfl))
  t0 := Tryd.underlying0
  a0 := Tryd.isAgg0
  z0 := Tryd.sizeOf0
  v0 := Tryd.zeroValue0
  t2 := Tryd.underlying2
  a2 := Tryd.isAgg2
  z2 := Tryd.sizeOf2
  v2 := Tryd.zeroValue2
  t3 := Tryd.underlying3
  a3 := Tryd.isAgg3
  z3 := Tryd.sizeOf3
  v3 := Tryd.zeroValue3
  t4 := Tryd.underlying4
  a4 := Tryd.isAgg4
  z4 := Tryd.sizeOf4
  v4 := Tryd.zeroValue4
  t5 := Tryd.underlying5
  a5 := Tryd.isAgg5
  z5 := Tryd.sizeOf5
  v5 := Tryd.zeroValue5
  t9 := Tryd.underlying9
  a9 := Tryd.isAgg9
  z9 := Tryd.sizeOf9
  v9 := Tryd.zeroValue9
  t20 := Tryd.underlying20
  a20 := Tryd.isAgg20
  z20 := Tryd.sizeOf20
  v20 := Tryd.zeroValue20
  t37 := Tryd.underlying143
  a37 := Tryd.isAgg143
  z37 := Tryd.sizeOf143
  v37 := Tryd.zeroValue143
  t46 := Tryd.underlying132
  a46 := Tryd.isAgg132
  z46 := Tryd.sizeOf132
  v46 := Tryd.zeroValue132
  t51 := Tryd.underlying180
  a51 := Tryd.isAgg180
  z51 := Tryd.sizeOf180
  v51 := Tryd.zeroValue180
  t53 := Tryd.underlying171
  a53 := Tryd.isAgg171
  z53 := Tryd.sizeOf171
  v53 := Tryd.zeroValue171
  t171 := Tryd.underlying170
  a171 := Tryd.isAgg170
  z171 := Tryd.sizeOf170
  v171 := Tryd.zeroValue170
  t173 := Tryd.underlying174
  a173 := Tryd.isAgg174
  z173 := Tryd.sizeOf174
  v173 := Tryd.zeroValue174
  t212 := Tryd.underlying179
  a212 := Tryd.isAgg179
  z212 := Tryd.sizeOf179
  v212 := Tryd.zeroValue179
  t213 := Tryd.underlying181
  a213 := Tryd.isAgg181
  z213 := Tryd.sizeOf181
  t232 := Tryd.underlying184
  a232 := Tryd.isAgg184
  z232 := Tryd.sizeOf184
  v232 := Tryd.zeroValue184
  t233 := Tryd.underlying185
  a233 := Tryd.isAgg185
  z233 := Tryd.sizeOf185
  v233 := Tryd.zeroValue185
  g17 := by kernel_rfl
  g18 := by kernel_rfl
  g19 := by kernel_rfl }
open Go.RowKit Go.Sort Go.Lib in
/-- THE ROAD WITHOUT THE TABLE: 0 <= i < 100: NO PREMISE ON THE WORLD, AND THE WORLD IS AS IT WAS: a row that keeps its argument in that range need list no table ('laid = []'). (LAID: no walk: one application.) -/
theorem Tryd.strconv_Itoa_small (i : Nat) (hi : i < 100) (w : World) :
    Calls Tryd.prog 110 #[.int .i64 i] w fun e w' => e = .returned (.string ⟨(Lib.decDigits i).toArray⟩) ∧ w' = w := Any.strconv_Itoa_small Tryd.lays171 i hi w
end Go.Proofs

/-
  The library's functions that Print calls: strings.Builder, strings.Join, strconv.Itoa. No conditions.
-/
set_option maxRecDepth 10000
set_option linter.unusedVariables false
set_option linter.unusedSimpArgs false
namespace Go.Proofs.Hs
open Go Go.Pg Go.Proofs Go.RowKit

/-! ## Itoa and Join -/
def itoaB (n : Int) : ByteArray := ⟨(Lib.itoa n).toArray⟩
def joinB (xs : List ByteArray) (sep : ByteArray) : ByteArray := ⟨(Lib.join (xs.map (·.data.toList)) sep.data.toList).toArray⟩
abbrev eStr (s : ByteArray) : List AV := [at_ s]

theorem vals1 {σ : Sg} {w : World} {a : AV} {vals : Array Value} (hs : vals.size = 1) (h : RepL σ w [a] (fun i => vals[i]?)) : ∃ u, vals = #[u] ∧ Rep σ w a u := by
  simp only [RepL] at h
  obtain ⟨⟨u, hu, hr⟩, _⟩ := h
  refine ⟨u, ?_, hr⟩
  apply Array.ext
  · simpa using hs
  · intro i h1 h2
    simp at h2
    subst h2
    rw [Array.getElem?_eq_getElem h1] at hu
    simpa using hu
theorem vals2 {σ : Sg} {w : World} {a b : AV} {vals : Array Value} (hs : vals.size = 2) (h : RepL σ w [a, b] (fun i => vals[i]?)) : ∃ u v, vals = #[u, v] ∧ Rep σ w a u ∧ Rep σ w b v := by
  simp only [RepL] at h
  obtain ⟨⟨u, hu, hr⟩, ⟨v, hv, hr2⟩, _⟩ := h
  refine ⟨u, v, ?_, hr, hr2⟩
  apply Array.ext
  · simpa using hs
  · intro i h1 h2
    simp at h2
    rcases (show i = 0 ∨ i = 1 by omega) with rfl | rfl
    · rw [Array.getElem?_eq_getElem h1] at hu
      simpa using hu
    · have : vals[1]? = some v := hv
      rw [Array.getElem?_eq_getElem h1] at this
      simpa using this

theorem below_growN (w : World) (k : Nat) (os : Array Obj) : Below w.heap.size w (Go.Sort.grow (w.drewN k) os) := by
  refine ⟨rfl, rfl, rfl, ?_, fun b hb => ?_⟩
  · simp [Go.Sort.grow, World.drewN]
  · simp [Go.Sort.grow, World.drewN, Array.getElem?_append_left hb]

theorem Itoa_ok (n : Int) (h0 : -9223372036854775808 ≤ n) (h1 : n ≤ 9223372036854775807) : OKv cx 110 [ai n] (at_ (itoaB n)) := by
  refine ⟨⟨_, Tryd.func110, by decide, by kernel_rfl⟩, fun w S vals hE hS hsz hrep => ?_⟩
  obtain ⟨u, rfl, hu⟩ := vals1 hsz hrep
  simp only [Rep] at hu
  subst hu
  refine (Tryd.strconv_Itoa n h0 h1 w hE).mono ?_
  rintro e w' ⟨rfl, k, os, rfl⟩
  exact ⟨below_growN w k os, _, _, rfl, rfl, rfl⟩

theorem itoaB_size (n : Int) (h0 : -9223372036854775808 ≤ n) (h1 : n ≤ 9223372036854775807) : (itoaB n).size ≤ 21 := by
  have := Lib.itoa_length_le n h0 h1
  unfold itoaB
  simpa [ByteArray.size] using this

theorem Join_ok (xs : List ByteArray) (sep : ByteArray) (hN : xs.length ≤ 140737488355328) (hlen : (joinB xs sep).size ≤ 140737488355328) : OKv cx 126 [.lst (xs.map eStr), at_ sep] (at_ (joinB xs sep)) := by
  refine ⟨⟨_, Tryd.func126, by decide, by kernel_rfl⟩, fun w S vals hE hS hsz hrep => ?_⟩
  obtain ⟨u, v, rfl, hu, hv⟩ := vals2 hsz hrep
  simp only [Rep] at hv
  subst hv
  simp only [Rep] at hu
  obtain ⟨A, cap, k, rfl, g1, g2, g3, g4⟩ := hu
  rw [List.length_map] at g1 ⊢
  cases xs with
  | nil =>
    refine (Tryd.strings_Join_none A cap sep w).mono ?_
    rintro e w' ⟨rfl, rfl⟩
    exact ⟨Below.refl _ _, _, _, rfl, rfl, rfl⟩
  | cons x0 xs =>
    obtain ⟨b, o, rfl, hb, hR⟩ := g4 (by simp)
    have hk : k = 1 := (g3 (eStr x0) (by simp)).1.symm
    subst hk
    rw [repLL_iff] at hR
    have hl : (Lib.join ((x0 :: xs).map (·.data.toList)) sep.data.toList).length ≤ 140737488355328 := by
      unfold joinB at hlen
      simpa [ByteArray.size] using hlen
    refine (Tryd.strings_Join b o cap (x0 :: xs) sep w (fun j x hx => ?_) (hS b hb) hN g1 hl).mono ?_
    · obtain ⟨hj, hxe⟩ := List.getElem?_eq_some_iff.1 hx
      have h1 := hR j (by rw [List.length_map]; exact hj)
      have he : ((x0 :: xs).map eStr)[j]'(by rw [List.length_map]; exact hj) = [at_ x] := by rw [List.getElem_map, hxe]
      rw [he] at h1
      simp only [RepL, Rep] at h1
      obtain ⟨⟨u, hu, hr⟩, _⟩ := h1
      subst hr
      simpa using hu
    · rintro e w' ⟨rfl, hb'⟩
      exact ⟨hb', _, _, rfl, rfl, rfl⟩

/-! ## strings.Builder -/
def bRow (id G : Nat) (l : ByteArray) : Row := { k := 2, es := [[.ptr id 0 0 1, .ref G 0 l.size]], ty := 145 }
def gRow (l : ByteArray) : Row := { k := 1, es := strE l, ty := 5, lo := l.size }
abbrev freshB : Row := { k := 2, es := [[.v (.pointer none), .v (.slice none 0 0)]], ty := 145 }

theorem lies145 (c : Nat) (hc : 1 ≤ c) : liesAt Tryd.prog Tryd.prog.depth 145 c 0 145 1 = true := by
  obtain ⟨d, hd⟩ : ∃ d, Tryd.prog.depth = d + 1 := ⟨Tryd.prog.depth - 1, by kernel_rfl⟩
  have h1 : Tryd.prog.cellsOf 145 = 2 := by kernel_rfl
  have h2 : sameLayout Tryd.prog Tryd.prog.depth 145 145 = true := by kernel_rfl
  have hr : rowAt Tryd.prog (sameLayout Tryd.prog Tryd.prog.depth · 145) Tryd.prog.depth 145 c 0 1 = true := by
    rw [show rowAt Tryd.prog (sameLayout Tryd.prog Tryd.prog.depth · 145) Tryd.prog.depth = rowAt Tryd.prog (sameLayout Tryd.prog Tryd.prog.depth · 145) (d + 1) by rw [hd]]
    unfold rowAt
    simp only [h1, h2]
    simp [hc]
  rw [show liesAt Tryd.prog Tryd.prog.depth = liesAt Tryd.prog (d + 1) by rw [hd]]
  unfold liesAt
  rw [hr, Bool.true_or]

section
variable {N : Nat} {Q : Exit → St → Prop} {s : St} {ops : Array Oper} {rest : List Oper} {d : Nat} {ty : TypeId} {ps : String} {af : Array Edge}

theorem P.eqNil {x : Operand} (hN : d < N) (hx : s.ev x = .v (.pointer none)) (k : AWL cx N ops Q rest (s.put d (ab true) none)) :
    AWL cx N ops Q (⟨some d, .binOp .eql 142 x (.const (.pointer none)) 142, ty, ps, af, none⟩ :: rest) s := by
  refine AWL.pureOp rfl rfl hN (r := ab true) (fun S0 w0 a w σ hσ => ?_) k
  have hv := hσ.ev x
  rw [hx] at hv
  simp only [Rep] at hv
  refine ⟨.bool true, ?_, rfl⟩
  have := run_eql_pointer_nil (P := Tryd.prog) (w := w) 142 none (by kernel_rfl)
  simp only [execOp, hv, Sem.run_bind]
  exact congrArg (fun z => Result.andThen z fun a w => (pure (Next.value a) : Sem Next).run Tryd.prog w) this

theorem P.eqNil' {x : Operand} {id i j tag : Nat} (hN : d < N) (hx : s.ev x = .ptr id i j tag) (k : AWL cx N ops Q rest (s.put d (ab false) none)) :
    AWL cx N ops Q (⟨some d, .binOp .eql 142 x (.const (.pointer none)) 142, ty, ps, af, none⟩ :: rest) s := by
  refine AWL.pureOp rfl rfl hN (r := ab false) (fun S0 w0 a w σ hσ => ?_) k
  have hv := hσ.ev x
  rw [hx] at hv
  simp only [Rep] at hv
  obtain ⟨b, hv, _⟩ := hv
  refine ⟨.bool false, ?_, rfl⟩
  have := run_eql_pointer_nil (P := Tryd.prog) (w := w) 142 (some ⟨b, i * σ.k id + j, none⟩) (by kernel_rfl)
  simp only [execOp, hv, Sem.run_bind]
  exact congrArg (fun z => Result.andThen z fun a w => (pure (Next.value a) : Sem Next).run Tryd.prog w) this

/-- A pointer's block. -/
theorem ptr_block {B0 : Nat} {S0 : Fr} {w : World} {H : Nat → Option AO} {σ : Sg} (hi : Inv B0 S0 w H σ) {id i j tag : Nat} {r : Row} (hr : Pg.rowAt H id = some r) (hlo : r.lo ≤ tag) {u : Value} (h : Rep σ w (.ptr id i j tag) u) :
    ∃ b arr, u = .pointer (some ⟨b, i * r.k + j, none⟩) ∧ σ.cur id = some b ∧ w.heap[b]? = some (.cells arr r.ty (0, 0)) ∧ arr.size = σ.cap b * r.k ∧ i < r.es.length ∧ r.es.length ≤ σ.cap b := by
  have hR := hi.row id r (rowAt_eq hr)
  simp only [Rep] at h
  obtain ⟨b, rfl, hown, h1, h2⟩ := h
  have hc : σ.cur id = some b := by
    rcases (hR.own b hown).1 with h | h
    · exact h
    · omega
  obtain ⟨a1, a2, a3, a4, arr, a5, a6⟩ := hR.cur b hc
  exact ⟨b, arr, by rw [hR.k], hc, a5, a6, by omega, a3⟩

theorem P.neqSame {x y : Operand} {id i j tag tag' : Nat} {r : Row} (hN : d < N) (hx : s.ev x = .ptr id i j tag) (hy : s.ev y = .ptr id i j tag') (hr : Pg.rowAt s.H id = some r) (h1 : r.lo ≤ tag) (h2 : r.lo ≤ tag')
    (k : AWL cx N ops Q rest (s.put d (ab false) none)) : AWL cx N ops Q (⟨some d, .binOp .neq 142 x y 142, ty, ps, af, none⟩ :: rest) s := by
  refine AWL.pureOp rfl rfl hN (r := ab false) (fun S0 w0 a w σ hσ => ?_) k
  have hv := hσ.ev x
  rw [hx] at hv
  have hv2 := hσ.ev y
  rw [hy] at hv2
  obtain ⟨b, arr, e1, c1, _⟩ := ptr_block hσ.inv hr h1 hv
  obtain ⟨b', arr', e1', c1', _⟩ := ptr_block hσ.inv hr h2 hv2
  rw [c1] at c1'; injection c1' with c1'; subst c1'
  obtain ⟨jj, hj, _⟩ := Option.map_eq_some_iff.1 (show (Tryd.prog.info? 145).map (·.size) = some 2 by kernel_rfl)
  refine ⟨.bool false, ?_, rfl⟩
  have := Lib.run_neq_ptr_same (P := Tryd.prog) w (tp := 142) (te := 145) ⟨b, i * r.k + j, none⟩ Tryd.underlying142 hj
  simp only [execOp, e1, e1', Sem.run_bind]
  exact congrArg (fun z => Result.andThen z fun a w => (pure (Next.value a) : Sem Next).run Tryd.prog w) this

theorem P.toUnsafe {x : Operand} {id tag : Nat} {r : Row} (hN : d < N) (hx : s.ev x = .ptr id 0 0 tag) (hr : Pg.rowAt s.H id = some r) (h1 : r.lo ≤ tag) (hk : r.k = 2) (ht : r.ty = 145)
    (k : AWL cx N ops Q rest (s.put d (.ptr id 0 0 tag) none)) : AWL cx N ops Q (⟨some d, .convert 142 166 x, ty, ps, af, none⟩ :: rest) s := by
  refine AWL.pureOp rfl rfl hN (r := .ptr id 0 0 tag) (fun S0 w0 a w σ hσ => ?_) k
  have hv := hσ.ev x
  rw [hx] at hv
  obtain ⟨b, arr, e1, c1, e2, e3, e4, e5⟩ := ptr_block hσ.inv hr h1 hv
  obtain ⟨jj, hj, hjs⟩ := Option.map_eq_some_iff.1 (show (Tryd.prog.info? 145).map (·.size) = some 2 by kernel_rfl)
  refine ⟨a.eval x, ?_, hv⟩
  have hsh : w.shape? b = some (145, arr.size) := by simp [World.shape?, e2, ht]
  have := Lib.run_to_unsafe (P := Tryd.prog) w (src := 142) (dst := 166) ⟨b, 0 * r.k + 0, none⟩ Tryd.underlying142 Tryd.underlying166 hj (by rw [hjs]; decide) hsh (by rw [e3, hk]; simp; omega)
  simp only [execOp, e1, Sem.run_bind]
  exact congrArg (fun z => Result.andThen z fun a w => (pure (Next.value a) : Sem Next).run Tryd.prog w) this

theorem P.fromUnsafe {x : Operand} {id tag : Nat} {r : Row} (hN : d < N) (hx : s.ev x = .ptr id 0 0 tag) (hr : Pg.rowAt s.H id = some r) (h1 : r.lo ≤ tag) (hk : r.k = 2) (ht : r.ty = 145)
    (k : AWL cx N ops Q rest (s.put d (.ptr id 0 0 tag) none)) : AWL cx N ops Q (⟨some d, .convert 166 142 x, ty, ps, af, none⟩ :: rest) s := by
  refine AWL.pureOp rfl rfl hN (r := .ptr id 0 0 tag) (fun S0 w0 a w σ hσ => ?_) k
  have hv := hσ.ev x
  rw [hx] at hv
  obtain ⟨b, arr, e1, c1, e2, e3, e4, e5⟩ := ptr_block hσ.inv hr h1 hv
  obtain ⟨jj, hj, hjs⟩ := Option.map_eq_some_iff.1 (show (Tryd.prog.info? 145).map (·.size) = some 2 by kernel_rfl)
  refine ⟨a.eval x, ?_, hv⟩
  have hsh : w.shape? b = some (145, arr.size) := by simp [World.shape?, e2, ht]
  have hc2 : Tryd.prog.cellsOf 145 = 2 := by kernel_rfl
  have := Lib.run_from_unsafe (P := Tryd.prog) w (src := 166) (dst := 142) (u := 145) ⟨b, 0, none⟩ Tryd.underlying166 Tryd.underlying142 hj hsh (by
    rw [hc2, e3, hk, Nat.mul_div_cancel _ (by decide)]
    exact lies145 _ (by omega))
  have hz : (0 * r.k + 0 : Nat) = 0 := by omega
  rw [hz] at e1
  simp only [execOp, e1, Sem.run_bind]
  exact congrArg (fun z => Result.andThen z fun a w => (pure (Next.value a) : Sem Next).run Tryd.prog w) this

theorem P.noEscape {x : Operand} {r : AV} {tys : Array TypeId} (hN : d < N) (hx : s.ev x = r) (k : AWL cx N ops Q rest (s.put d r none)) :
    AWL cx N ops Q (⟨some d, .call { callee := .value (.func 128), args := #[x], argTypes := tys }, ty, ps, af, none⟩ :: rest) s := by
  refine AWL.pureOp rfl rfl hN (r := r) (fun S0 w0 a w σ hσ => ⟨a.eval x, ?_, hx ▸ hσ.ev x⟩) k
  have hrun : (callFunc 128 #[a.eval x]).run Tryd.prog w = .ok (.value (a.eval x)) w := by
    rw [run_callFunc_extern Tryd.func128 (by kernel_rfl) (by kernel_rfl) (by kernel_rfl) (e := Extern.AbiNoEscape.same) (by kernel_rfl)]
    rw [Lib.run_noEscape]
    rfl
  have he : a.eval (.func 128) = .func (.func 128) #[] #[] := rfl
  simp only [execOp, resolve, he, Deferred.ofValue, Sem.run_bind, Sem.run_pure, Result.andThen_ok, invoke]
  simp only [List.map_toArray, List.map_cons, List.map_nil, Array.empty_append, Array.append_empty]
  exact hrun
end
end Go.Proofs.Hs

set_option maxHeartbeats 8000000
namespace Go.Proofs.Hs
open Go Go.Pg Go.Proofs

theorem cI : constA .nilIface = .v .nilIface := rfl
theorem cP : constA (.pointer none) = .v (.pointer none) := rfl
theorem byteZero : ∀ i, cx.P.info? 5 = some i → i.zero = some (.int .u8 0) := by
  intro i hi
  have h : (Tryd.prog.info? 5).map (·.zero) = some (some (.int .u8 0)) := by kernel_rfl
  have hi' : Tryd.prog.info? 5 = some i := hi
  rw [hi'] at h
  simpa using h
theorem strE_app (a b : ByteArray) : strE a ++ strE b = strE (a ++ b) := by simp [strE]
theorem maxS (a : Nat) : max a (a + 1) = a + 1 := by omega
theorem bsz (a b : ByteArray) : a.size + b.size = (a ++ b).size := by simp

theorem cc_fresh {args : List AV} {H : Nat → Option AO} {nx id : Nat} (ha : args = [.ptr id 0 0 1]) (hr : Pg.rowAt H id = some freshB) :
    OKm cx 125 args H nx (fun r h n => r = .tup [] ∧ h = updH H id (.row { k := 2, es := [[.ptr id 0 0 1, .v (.slice none 0 0)]], ty := 145 }) ∧ n = nx) := by
  subst ha
  refine OKm.of_body cx_ok (rs := []) Tryd.func125 rfl (by decide +kernel) rfl (by simp [Tryd.ntmps125]) ?_
  simp only [Tryd.ntmps125]
  repeat' first
    | apply AW.seq | apply AW.region | apply AW.ret | apply AW.block | apply AW.skip | apply AW.exit | apply AW.scope | apply AW.label | apply AWL.nil
    | ((first | (apply W.step cx_ok; decide) | apply W.store cx_ok | apply AW.cond); (simp (disch := omega) only [push_cast, simprocAttr, hr] <;> rfl); all_goals try ((with_reducible intro hI); try first | (cases hI; done) | (simp only [INTS] at hI; try first | (exfalso; omega) | (have hT : True := hI; clear hT hI))))
    | ((first | apply W.retC | apply W.endC' | apply W.retM | apply W.endM' | apply W.ret1 | apply W.end1 | apply W.ret2 | apply W.end2 | apply W.ret3 | apply W.end3 | apply W.ret0 | apply W.end0); (iterate 2 (try (simp (disch := omega) only [push_cast, simprocAttr, hr] <;> rfl))))
    | ((apply P.eqNil; decide); (simp (disch := omega) only [push_cast, simprocAttr, hr] <;> rfl))
    | ((apply P.eqNil'; decide); (simp (disch := omega) only [push_cast, simprocAttr, hr] <;> rfl))
    | ((first | (apply P.neqSame; decide)); (iterate 3 (simp (disch := omega) only [push_cast, simprocAttr, hr] <;> rfl)); exact Nat.zero_le _; exact Nat.zero_le _)
    | ((first | (apply P.toUnsafe; decide) | (apply P.fromUnsafe; decide)); (iterate 2 (simp (disch := omega) only [push_cast, simprocAttr, hr] <;> rfl)); exact Nat.zero_le _; rfl; rfl)
    | ((apply P.noEscape; decide); (simp (disch := omega) only [push_cast, simprocAttr, hr] <;> rfl))
    | ((apply AWL.appendS cx_ok rfl rfl; decide; rfl; rfl; rfl; rfl; rfl; rfl; rfl; rfl; exact byteZero; (iterate 2 (simp (disch := omega) only [push_cast, simprocAttr, hr] <;> rfl)); omega; ((try dsimp only); (try simp only [strE_length, List.length_nil]); omega)))
    | ((first | apply W.retX | apply W.endX); (simp (disch := omega) only [push_cast, simprocAttr, hr] <;> rfl); (refine ⟨?_, ?_, ?_⟩ <;> (first | rfl | (simp (disch := omega) only [push_cast, simprocAttr, hr] <;> rfl))))

theorem cc_used {args : List AV} {H : Nat → Option AO} {nx id G : Nat} {l : ByteArray} (ha : args = [.ptr id 0 0 1]) (hr : Pg.rowAt H id = some (bRow id G l)) :
    OKm cx 125 args H nx (fun r h n => r = .tup [] ∧ h = H ∧ n = nx) := by
  subst ha
  refine OKm.of_body cx_ok (rs := []) Tryd.func125 rfl (by decide +kernel) rfl (by simp [Tryd.ntmps125]) ?_
  simp only [Tryd.ntmps125]
  repeat' first
    | apply AW.seq | apply AW.region | apply AW.ret | apply AW.block | apply AW.skip | apply AW.exit | apply AW.scope | apply AW.label | apply AWL.nil
    | ((first | (apply W.step cx_ok; decide) | apply W.store cx_ok | apply AW.cond); (simp (disch := omega) only [push_cast, simprocAttr, hr, bRow] <;> rfl); all_goals try ((with_reducible intro hI); try first | (cases hI; done) | (simp only [INTS] at hI; try first | (exfalso; omega) | (have hT : True := hI; clear hT hI))))
    | ((first | apply W.retC | apply W.endC' | apply W.retM | apply W.endM' | apply W.ret1 | apply W.end1 | apply W.ret2 | apply W.end2 | apply W.ret3 | apply W.end3 | apply W.ret0 | apply W.end0); (iterate 2 (try (simp (disch := omega) only [push_cast, simprocAttr, hr, bRow] <;> rfl))))
    | ((apply P.eqNil; decide); (simp (disch := omega) only [push_cast, simprocAttr, hr, bRow] <;> rfl))
    | ((apply P.eqNil'; decide); (simp (disch := omega) only [push_cast, simprocAttr, hr, bRow] <;> rfl))
    | ((first | (apply P.neqSame; decide)); (iterate 3 (simp (disch := omega) only [push_cast, simprocAttr, hr, bRow] <;> rfl)); exact Nat.zero_le _; exact Nat.zero_le _)
    | ((first | (apply P.toUnsafe; decide) | (apply P.fromUnsafe; decide)); (iterate 2 (simp (disch := omega) only [push_cast, simprocAttr, hr, bRow] <;> rfl)); exact Nat.zero_le _; rfl; rfl)
    | ((apply P.noEscape; decide); (simp (disch := omega) only [push_cast, simprocAttr, hr, bRow] <;> rfl))
    | ((apply AWL.appendS cx_ok rfl rfl; decide; rfl; rfl; rfl; rfl; rfl; rfl; rfl; rfl; exact byteZero; (iterate 2 (simp (disch := omega) only [push_cast, simprocAttr, hr, bRow] <;> rfl)); omega; ((try dsimp only); (try simp only [strE_length, List.length_nil]); omega)))
    | ((first | apply W.retX | apply W.endX); (simp (disch := omega) only [push_cast, simprocAttr, hr, bRow] <;> rfl); (refine ⟨?_, ?_, ?_⟩ <;> (first | rfl | (simp (disch := omega) only [push_cast, simprocAttr, hr, bRow] <;> rfl))))

theorem ws_fresh {args : List AV} {H : Nat → Option AO} {nx id : Nat} {b : ByteArray} (ha : args = [.ptr id 0 0 1, at_ b]) (hr : Pg.rowAt H id = some freshB) (hid : id < nx) (hb0 : 0 < b.size) (hb : b.size ≤ 140737488355328) :
    OKm cx 108 args H nx (fun r h n => r = .tup [ai b.size, .v .nilIface] ∧ h = updH (updH H nx (.row (gRow b))) id (.row (bRow id nx b)) ∧ n = nx + 1) := by
  subst ha
  have h1 : id ≠ nx := by omega
  have h2 : nx ≠ id := by omega
  refine OKm.of_body cx_ok (rs := [.tmp 4, .tmp 5]) Tryd.func108 rfl (by decide +kernel) rfl (by simp [Tryd.ntmps108]) ?_
  simp only [Tryd.ntmps108]
  repeat' first
    | apply AW.seq | apply AW.region | apply AW.ret | apply AW.block | apply AW.skip | apply AW.exit | apply AW.scope | apply AW.label | apply AWL.nil
    | ((first | (apply W.step cx_ok; decide) | apply W.store cx_ok | apply AW.cond); (simp (disch := omega) only [push_cast, simprocAttr, hr, h1, h2, cI, cP, bRow, gRow, strE_app, maxS, upd_twice, List.nil_append, strE_length, bsz] <;> rfl); all_goals try ((with_reducible intro hI); try first | (cases hI; done) | (simp only [INTS] at hI; try first | (exfalso; omega) | (have hT : True := hI; clear hT hI))))
    | ((first | apply W.retC | apply W.endC' | apply W.retM | apply W.endM' | apply W.ret1 | apply W.end1 | apply W.ret2 | apply W.end2 | apply W.ret3 | apply W.end3 | apply W.ret0 | apply W.end0); (iterate 2 (try (simp (disch := omega) only [push_cast, simprocAttr, hr, h1, h2, cI, cP, bRow, gRow, strE_app, maxS, upd_twice, List.nil_append, strE_length, bsz] <;> rfl))))
    | ((apply P.eqNil; decide); (simp (disch := omega) only [push_cast, simprocAttr, hr, h1, h2, cI, cP, bRow, gRow, strE_app, maxS, upd_twice, List.nil_append, strE_length, bsz] <;> rfl))
    | ((apply P.eqNil'; decide); (simp (disch := omega) only [push_cast, simprocAttr, hr, h1, h2, cI, cP, bRow, gRow, strE_app, maxS, upd_twice, List.nil_append, strE_length, bsz] <;> rfl))
    | ((first | (apply P.neqSame; decide)); (iterate 3 (simp (disch := omega) only [push_cast, simprocAttr, hr, h1, h2, cI, cP, bRow, gRow, strE_app, maxS, upd_twice, List.nil_append, strE_length, bsz] <;> rfl)); exact Nat.zero_le _; exact Nat.zero_le _)
    | ((first | (apply P.toUnsafe; decide) | (apply P.fromUnsafe; decide)); (iterate 2 (simp (disch := omega) only [push_cast, simprocAttr, hr, h1, h2, cI, cP, bRow, gRow, strE_app, maxS, upd_twice, List.nil_append, strE_length, bsz] <;> rfl)); exact Nat.zero_le _; rfl; rfl)
    | ((apply P.noEscape; decide); (simp (disch := omega) only [push_cast, simprocAttr, hr, h1, h2, cI, cP, bRow, gRow, strE_app, maxS, upd_twice, List.nil_append, strE_length, bsz] <;> rfl))
    | ((apply AWL.appendS cx_ok rfl rfl; decide; rfl; rfl; rfl; rfl; rfl; rfl; rfl; rfl; exact byteZero; (iterate 2 (simp (disch := omega) only [push_cast, simprocAttr, hr, h1, h2, cI, cP, bRow, gRow, strE_app, maxS, upd_twice, List.nil_append, strE_length, bsz] <;> rfl)); omega; ((try dsimp only); (try simp only [strE_length, List.length_nil]); omega)))
    | ((apply W.callm cx_ok; decide); (simp (disch := omega) only [push_cast, simprocAttr, hr, h1, h2, cI, cP, bRow, gRow, strE_app, maxS, upd_twice, List.nil_append, strE_length, bsz] <;> rfl); (refine cc_fresh (id := id) ?_ ?_); (iterate 2 (simp (disch := omega) only [push_cast, simprocAttr, hr, h1, h2, cI, cP, bRow, gRow, strE_app, maxS, upd_twice, List.nil_append, strE_length, bsz] <;> rfl)); (try omega); (try omega); (rintro r H' nx' ⟨rfl, rfl, rfl⟩))
    | ((apply D.callm cx_ok; decide; decide); (simp (disch := omega) only [push_cast, simprocAttr, hr, h1, h2, cI, cP, bRow, gRow, strE_app, maxS, upd_twice, List.nil_append, strE_length, bsz] <;> rfl); (refine cc_fresh (id := id) ?_ ?_); (iterate 2 (simp (disch := omega) only [push_cast, simprocAttr, hr, h1, h2, cI, cP, bRow, gRow, strE_app, maxS, upd_twice, List.nil_append, strE_length, bsz] <;> rfl)); (try omega); (try omega); (first | exact .inl rfl | exact .inr (fun j x hj hx => upd_keep (by decide) (by decide) j x hj hx)))
    | ((first | apply W.retX | apply W.endX); (simp (disch := omega) only [push_cast, simprocAttr, hr, h1, h2, cI, cP, bRow, gRow, strE_app, maxS, upd_twice, List.nil_append, strE_length, bsz] <;> rfl); (refine ⟨?_, ?_, ?_⟩ <;> (first | rfl | (simp (disch := omega) only [push_cast, simprocAttr, hr, h1, h2, cI, cP, bRow, gRow, strE_app, maxS, upd_twice, List.nil_append, strE_length, bsz] <;> rfl))))

theorem ws_used {args : List AV} {H : Nat → Option AO} {nx id G : Nat} {l b : ByteArray} (ha : args = [.ptr id 0 0 1, at_ b]) (hr : Pg.rowAt H id = some (bRow id G l)) (hg : Pg.rowAt H G = some (gRow l)) (h1 : G ≠ id) (hb0 : 0 < b.size) (hb : l.size + b.size ≤ 140737488355328) :
    OKm cx 108 args H nx (fun r h n => r = .tup [ai b.size, .v .nilIface] ∧ h = updH (updH H G (.row (gRow (l ++ b)))) id (.row (bRow id G (l ++ b))) ∧ n = nx) := by
  subst ha
  have h2 : id ≠ G := fun e => h1 e.symm
  refine OKm.of_body cx_ok (rs := [.tmp 4, .tmp 5]) Tryd.func108 rfl (by decide +kernel) rfl (by simp [Tryd.ntmps108]) ?_
  simp only [Tryd.ntmps108]
  repeat' first
    | apply AW.seq | apply AW.region | apply AW.ret | apply AW.block | apply AW.skip | apply AW.exit | apply AW.scope | apply AW.label | apply AWL.nil
    | ((first | (apply W.step cx_ok; decide) | apply W.store cx_ok | apply AW.cond); (simp (disch := omega) only [push_cast, simprocAttr, hr, hg, h1, h2, cI, cP, bRow, gRow, strE_app, maxS, upd_twice, List.nil_append, strE_length, bsz] <;> rfl); all_goals try ((with_reducible intro hI); try first | (cases hI; done) | (simp only [INTS] at hI; try first | (exfalso; omega) | (have hT : True := hI; clear hT hI))))
    | ((first | apply W.retC | apply W.endC' | apply W.retM | apply W.endM' | apply W.ret1 | apply W.end1 | apply W.ret2 | apply W.end2 | apply W.ret3 | apply W.end3 | apply W.ret0 | apply W.end0); (iterate 2 (try (simp (disch := omega) only [push_cast, simprocAttr, hr, hg, h1, h2, cI, cP, bRow, gRow, strE_app, maxS, upd_twice, List.nil_append, strE_length, bsz] <;> rfl))))
    | ((apply P.eqNil; decide); (simp (disch := omega) only [push_cast, simprocAttr, hr, hg, h1, h2, cI, cP, bRow, gRow, strE_app, maxS, upd_twice, List.nil_append, strE_length, bsz] <;> rfl))
    | ((apply P.eqNil'; decide); (simp (disch := omega) only [push_cast, simprocAttr, hr, hg, h1, h2, cI, cP, bRow, gRow, strE_app, maxS, upd_twice, List.nil_append, strE_length, bsz] <;> rfl))
    | ((first | (apply P.neqSame; decide)); (iterate 3 (simp (disch := omega) only [push_cast, simprocAttr, hr, hg, h1, h2, cI, cP, bRow, gRow, strE_app, maxS, upd_twice, List.nil_append, strE_length, bsz] <;> rfl)); exact Nat.zero_le _; exact Nat.zero_le _)
    | ((first | (apply P.toUnsafe; decide) | (apply P.fromUnsafe; decide)); (iterate 2 (simp (disch := omega) only [push_cast, simprocAttr, hr, hg, h1, h2, cI, cP, bRow, gRow, strE_app, maxS, upd_twice, List.nil_append, strE_length, bsz] <;> rfl)); exact Nat.zero_le _; rfl; rfl)
    | ((apply P.noEscape; decide); (simp (disch := omega) only [push_cast, simprocAttr, hr, hg, h1, h2, cI, cP, bRow, gRow, strE_app, maxS, upd_twice, List.nil_append, strE_length, bsz] <;> rfl))
    | ((apply AWL.appendS cx_ok rfl rfl; decide; rfl; rfl; rfl; rfl; rfl; rfl; rfl; rfl; exact byteZero; (iterate 2 (simp (disch := omega) only [push_cast, simprocAttr, hr, hg, h1, h2, cI, cP, bRow, gRow, strE_app, maxS, upd_twice, List.nil_append, strE_length, bsz] <;> rfl)); omega; ((try dsimp only); (try simp only [strE_length, List.length_nil]); omega)))
    | ((apply W.callm cx_ok; decide); (simp (disch := omega) only [push_cast, simprocAttr, hr, hg, h1, h2, cI, cP, bRow, gRow, strE_app, maxS, upd_twice, List.nil_append, strE_length, bsz] <;> rfl); (refine cc_used (id := id) (G := G) (l := l) ?_ ?_); (iterate 2 (simp (disch := omega) only [push_cast, simprocAttr, hr, hg, h1, h2, cI, cP, bRow, gRow, strE_app, maxS, upd_twice, List.nil_append, strE_length, bsz] <;> rfl)); (try omega); (try omega); (rintro r H' nx' ⟨rfl, rfl, rfl⟩))
    | ((apply D.callm cx_ok; decide; decide); (simp (disch := omega) only [push_cast, simprocAttr, hr, hg, h1, h2, cI, cP, bRow, gRow, strE_app, maxS, upd_twice, List.nil_append, strE_length, bsz] <;> rfl); (refine cc_used (id := id) (G := G) (l := l) ?_ ?_); (iterate 2 (simp (disch := omega) only [push_cast, simprocAttr, hr, hg, h1, h2, cI, cP, bRow, gRow, strE_app, maxS, upd_twice, List.nil_append, strE_length, bsz] <;> rfl)); (try omega); (try omega); (first | exact .inl rfl | exact .inr (fun j x hj hx => upd_keep (by decide) (by decide) j x hj hx)))
    | ((first | apply W.retX | apply W.endX); (simp (disch := omega) only [push_cast, simprocAttr, hr, hg, h1, h2, cI, cP, bRow, gRow, strE_app, maxS, upd_twice, List.nil_append, strE_length, bsz] <;> rfl); (refine ⟨?_, ?_, ?_⟩ <;> (first | rfl | (simp (disch := omega) only [push_cast, simprocAttr, hr, hg, h1, h2, cI, cP, bRow, gRow, strE_app, maxS, upd_twice, List.nil_append, strE_length, bsz] <;> rfl))))

end Go.Proofs.Hs

/-
  strings.Builder's String, at a builder of the call's own. No conditions.
-/
set_option maxRecDepth 100000
set_option maxHeartbeats 4000000
namespace Go.Proofs.Hs
open Go Go.Pg Go.Proofs Go.RowKit

theorem str_walk (b g cap : Nat) (cur : Array Value) (l : List UInt8) (w : World) (c1' : w.cell? ⟨b, 1, none⟩ = some (.slice (some ⟨g, 0, none⟩) l.length cap)) (hg : w.heap[g]? = some (.cells cur 5 (0, 0))) (hn : l.length ≤ cap) (hcm : cap ≤ maxLen)
    (hcs : cur.size = cap) (hcells : ∀ (j : Nat) x, l[j]? = some x → cur[j]? = some (.int .u8 x.toNat)) (h0 : l ≠ []) :
    Calls Tryd.prog 112 #[.pointer (some ⟨b, 0, none⟩)] w fun e w' => e = .returned (.string ⟨l.toArray⟩) ∧ Below g w w' := by
  have hl0 : l.length ≠ 0 := by simpa using h0
  have c1 : w.drew.cell? ⟨b, 1, none⟩ = some (.slice (some ⟨g, 0, none⟩) l.length cap) := c1'
  have hSD : (Builtin.unsafeSliceData_ #[143] 164 #[.slice (some ⟨g, 0, none⟩) l.length cap]).run Tryd.prog w.drew = .ok (.pointer (some ⟨g, 0, none⟩)) w.drew :=
    Lib.run_unsafeSliceData_row _ _ _ _ _ _ (by omega)
  have hUS : (Builtin.unsafeString_ #[164, 3] 9 #[.pointer (some ⟨g, 0, none⟩), .int .i64 l.length]).run Tryd.prog w.drew = .ok (.string ⟨l.toArray⟩) (w.drew.freeze ⟨g, 0, none⟩ l.length) := by
    have hg' : w.drew.heap[g]? = some (.cells cur 5 (0, 0)) := hg
    refine Lib.run_unsafeString_row w.drew 164 3 9 5 Tryd.underlying164 (by kernel_rfl) g cur.size (by simp [World.shape?, hg']) l h0 (by omega) (by unfold maxLen at hcm; omega) ?_
    intro j x hx
    have := hcells j x hx
    simp [World.cell?, hg', Addr.add_lit, this]
  have mixed : Tryd.prog.follows .mixedOrders = true := rfl
  go_enter Tryd.func112, Tryd.ntmps112
  go_wp2
  go_region_o
  all_goals (go_wp2; go_ret; exact ⟨rfl, Lib.below_freeze (Below.drew (Below.refl g w)) (p := ⟨g, 0, none⟩) (Nat.le_refl _) _⟩)

/-- What the last call of Print hands back. -/
theorem string_call {H : Nat → Option AO} {id G : Nat} {l : ByteArray} (h1 : Pg.rowAt H id = some (bRow id G l)) (h2 : Pg.rowAt H G = some (gRow l)) (hl : 0 < l.size) {args : List AV} (ha : args = [.ptr id 0 0 1]) :
    ∀ (S0 : Fr) (w0 w : World) (σ : Sg) (vals : Array Value), cx.E w0 → Inv w0.heap.size S0 w H σ → Below w0.heap.size w0 w → vals.size = args.length → RepL σ w args (fun i => vals[i]?) →
      Calls cx.P 112 vals w fun e w' => Below w0.heap.size w0 w' ∧ ∃ v, e = .returned v ∧ Rep (pureSg fun _ => False) w' (at_ l) v := by
  intro S0 w0 w σ vals hE hi hb hs hr
  subst ha
  obtain ⟨u, rfl, hu⟩ := vals1 hs hr
  obtain ⟨b, arr, rfl, hc, hh, harr, _, _⟩ := ptr_block hi h1 (Nat.zero_le _) hu
  have hR := hi.row id _ (rowAt_eq h1)
  have hcon := hR.con b hc 0 (by simp [bRow])
  have e0 : (bRow id G l).es[0]'(by simp [bRow]) = [AV.ptr id 0 0 1, .ref G 0 l.size] := rfl
  rw [e0] at hcon
  simp only [RepL] at hcon
  obtain ⟨_, ⟨v, hv, hrv⟩, _⟩ := hcon
  simp only [Rep] at hrv
  obtain ⟨_, A, cap, rfl, g1, g2, g3, g4⟩ := hrv
  have hG := hi.row G _ (rowAt_eq h2)
  have hlen : σ.len G = l.size := by rw [hG.len]; exact strE_length l
  rcases g4 trivial hlen.symm with ⟨_, hz, _⟩ | ⟨g, hcg, rfl, hcap⟩
  · omega
  · obtain ⟨a1, a2, a3, a4, cur, a5, a6⟩ := hG.cur g hcg
    have hbg := hi.own_lt g G a1
    have hes : (gRow l).es = strE l := rfl
    have hll : l.data.toList.length = l.size := by rw [Array.length_toList]; rfl
    have hz : ((0 * (bRow id G l).k + 0 : Nat)) = 0 := by simp
    rw [hz]
    have hc1 : w.cell? ⟨b, 1, none⟩ = some (.slice (some ⟨g, 0, none⟩) l.data.toList.length cap) := by
      rw [hll, ← hv]
      congr 1
    refine (str_walk b g cap cur l.data.toList w hc1 a5 (by rw [hll]; exact g1) g2 (by rw [a6, hcap]; simp [gRow]) (fun j x hx => ?_) (fun h => by rw [h] at hll; simp at hll; omega)).mono ?_
    · obtain ⟨hj, rfl⟩ := List.getElem?_eq_some_iff.1 hx
      have hjl : j < (gRow l).es.length := by rw [hes, strE_length, ← hll]; exact hj
      have hce := hG.con g hcg j hjl
      have he : (gRow l).es[j] = [AV.v (.int .u8 (l.data.toList[j]).toNat)] := by simp [gRow, strE]
      rw [he] at hce
      simp only [RepL, Rep] at hce
      obtain ⟨⟨u, hu1, rfl⟩, _⟩ := hce
      have : w.cell? ⟨g, j, none⟩ = cur[j]? := cell_of_row w g j cur (gRow l).ty (0, 0) a5
      have hk1 : (gRow l).k = 1 := rfl
      rw [hk1, Nat.mul_one, Nat.add_zero, this] at hu1
      exact hu1
    · rintro e w' ⟨rfl, hb'⟩
      refine ⟨?_, _, rfl, ?_⟩
      · exact hb.trans ⟨hb'.os, hb'.tape, hb'.output, hb'.size, fun k hk => hb'.block k (by omega)⟩
      · have : (⟨l.data.toList.toArray⟩ : ByteArray) = l := by cases l; simp
        simp only [Rep, this]
end Go.Proofs.Hs

namespace Go.Proofs.Hs
open Go Go.Pg Go.Proofs

def wordsB (xs : List ByteArray) : ByteArray := joinB xs (ByteArray.mk #[32]) ++ ByteArray.mk #[10]
def spanB (s : Span) : ByteArray := itoaB s.lo ++ ByteArray.mk #[45] ++ itoaB s.hi

theorem words_ok (xs : List ByteArray) (hN : xs.length ≤ 140737488355328) (hlen : (joinB xs (ByteArray.mk #[32])).size ≤ 140737488355328) : OKv cx 109 [.lst (xs.map eStr)] (at_ (wordsB xs)) := by
  have hc : (joinB xs (ByteArray.mk #[32])).size + (ByteArray.mk #[10]).size ≤ maxLen := by
    have : (ByteArray.mk #[10]).size = 1 := rfl
    rw [this]; unfold maxLen; omega
  refine OKat.of_body (rs := [2]) Tryd.func109 rfl (by decide +kernel) rfl (by simp [Tryd.ntmps109]) ?_
  simp only [Tryd.ntmps109]
  repeat' first
    | apply AW.seq | apply AW.region | apply AW.ret | apply AW.block | apply AW.skip | apply AW.exit | apply AW.scope | apply AW.label | apply AWL.nil
    | ((first | (apply W.step cx_ok; decide) | apply AW.cond); (simp (disch := omega) only [push_cast, simprocAttr, hc] <;> rfl); all_goals try ((with_reducible intro hI); try first | (cases hI; done) | (simp only [INTS] at hI; try first | (exfalso; omega) | (have hT : True := hI; clear hT hI))))
    | ((apply W.callv cx_ok; decide); (iterate 2 (simp (disch := omega) only [push_cast, simprocAttr, hc] <;> rfl)); (with_reducible first | exact Join_ok _ _ hN hlen); try first | rfl | (simp (disch := omega) only [push_cast, simprocAttr, hc] <;> rfl))
    | ((first | apply W.ret1 | apply W.end1); (iterate 2 (try (simp (disch := omega) only [push_cast, simprocAttr, hc] <;> rfl))))
  all_goals (show _ = _; rfl)

theorem pure_str (l : List ByteArray) : (l.map eStr).all pureL = true := by
  rw [List.all_eq_true]; intro x hx; obtain ⟨a, _, rfl⟩ := List.mem_map.1 hx; rfl
theorem take_str (l : List ByteArray) : (l.map eStr).take l.length = l.map eStr := by rw [List.take_of_length_le (by simp)]

theorem spans_ok (l : List Span) (hl : l.length ≤ 1048576) (hb : ∀ x ∈ l, 0 ≤ x.lo ∧ x.lo ≤ x.hi ∧ x.hi ≤ 2147483648) : OKv cx 111 [lSpan l] (.lst ((l.map spanB).map eStr)) := by
  refine OKat.of_body (rs := [2]) Tryd.func111 rfl (by decide +kernel) rfl (by simp [Tryd.ntmps111]) ?_
  simp only [Tryd.ntmps111]
  repeat' first
    | apply AW.seq | apply AW.region | apply AW.ret | apply AW.block | apply AW.skip | apply AW.exit | apply AW.scope | apply AW.label | apply AWL.nil | apply D.nil
    | refine W.draw cx_mixed (by decide +kernel) ?_
    | ((first | (apply W.step cx_ok; decide) | (apply D.step cx_ok; decide; decide) | apply W.store cx_ok | apply AW.cond); (simp (disch := omega) only [push_cast, simprocAttr] <;> rfl); all_goals try ((with_reducible intro hI); try first | (cases hI; done) | (simp only [INTS] at hI; try first | (exfalso; omega) | (have hT : True := hI; clear hT hI))))
    | ((first | apply W.ret1 | apply W.end1); (iterate 2 (try (simp (disch := omega) only [push_cast, simprocAttr] <;> rfl))))
  refine AW.adopt 3 1 9 ?_ ?_
  · simp only [push_cast, simprocAttr]
  refine AW.loop (fun n s => ∃ (k : Nat) (out : List ByteArray) (rest : List Span), n = rest.length ∧ (l.drop k = rest) ∧ (out ++ rest.map spanB = l.map spanB) ∧ (out.length = k) ∧ 1 ≤ s.nx ∧ s.tm 3 = .ref 0 0 out.length ∧ s.tm 6 = lSpan l ∧ s.tm 7 = ai l.length ∧ s.tm 8 = ai k ∧ Pg.rowAt s.H (0) = some ({ k := 1, es := out.map eStr, ty := 9, lo := out.length })) (l.length) ⟨0, [], _, rfl, rfl, rfl, rfl, ?_, ?_, ?_, ?_, ?_, ?_⟩ ?_
  iterate 6 (first | (simp (disch := omega) only [push_cast, simprocAttr] <;> first | rfl | omega) | omega)
  rintro n s ⟨k, out, rest, hn, hp0, hp1, hp2, hnl, hS⟩
  have hZ : (0 : Nat) ≠ s.nx ∧ s.nx ≠ (0 : Nat) := by omega
  refine AW.fresh fun hfr => ?_
  rcases rest with _ | ⟨x, rest⟩
  · have hk := drop_nil hp0
    repeat' first
      | apply AW.seq | apply AW.region | apply AW.ret | apply AW.block | apply AW.skip | apply AW.exit | apply AW.scope | apply AW.label | apply AWL.nil | apply D.nil
      | refine W.draw cx_mixed (by decide +kernel) ?_
      | ((first | (apply W.step cx_ok; decide) | (apply D.step cx_ok; decide; decide) | apply W.store cx_ok | apply AW.cond); (simp (disch := omega) only [push_cast, simprocAttr, hS, hZ, hk, pure_str, take_str] <;> rfl); all_goals try ((with_reducible intro hI); try first | (cases hI; done) | (simp only [INTS] at hI; try first | (exfalso; omega) | (have hT : True := hI; clear hT hI))))
      | ((first | apply W.ret1 | apply W.end1); (iterate 2 (try (simp (disch := omega) only [push_cast, simprocAttr, hS, hZ, hk, pure_str, take_str] <;> rfl))))
    have ho : out = l.map spanB := by simpa using hp1
    all_goals (show _ = _; rw [ho])
  · obtain ⟨hk, hg, hd', hl', hm, hx⟩ := drop_cons hp0 eSpan []
    have hbx := hb x hm
    have s1 := itoaB_size x.lo (by omega) (by omega)
    have s2 := itoaB_size x.hi (by omega) (by omega)
    have s3 : (ByteArray.mk #[45]).size = 1 := rfl
    have hc1 : (itoaB x.lo).size + (ByteArray.mk #[45]).size ≤ maxLen := by rw [s3]; unfold maxLen; omega
    have hc2 : (itoaB x.lo ++ ByteArray.mk #[45]).size + (itoaB x.hi).size ≤ maxLen := by rw [ByteArray.size_append, s3]; unfold maxLen; omega
    have hfz : ∀ m, s.H (s.nx + m) = none := fun m => hfr _ (by omega)
    repeat' first
      | apply AW.seq | apply AW.region | apply AW.ret | apply AW.block | apply AW.skip | apply AW.exit | apply AW.scope | apply AW.label | apply AWL.nil | apply D.nil
      | refine AW.draw (id := 5) cx_mixed [10, 11] [] [] 12 (by decide +kernel) ?_
      | refine W.draw cx_mixed (by decide +kernel) ?_
      | ((first | (apply W.step cx_ok; decide) | (apply D.step cx_ok; decide; decide) | apply W.store cx_ok | apply AW.cond); (simp (disch := omega) only [push_cast, simprocAttr, hS, hZ, hk, hg, hc1, hc2, hfz, Nat.add_assoc, List.length_append, List.map_append, List.append_assoc, List.length_cons, List.length_nil, List.isEmpty_cons, List.isEmpty_nil] <;> rfl); all_goals try ((with_reducible intro hI); try first | (cases hI; done) | (simp only [INTS] at hI; try first | (exfalso; omega) | (have hT : True := hI; clear hT hI))))
      | ((first | (apply D.store cx_ok; decide) | (apply D.stept cx_ok; decide; decide) | (apply D.stepm cx_ok; decide; decide)); (simp (disch := omega) only [push_cast, simprocAttr, hS, hZ, hk, hg, hc1, hc2, hfz, Nat.add_assoc, List.length_append, List.map_append, List.append_assoc, List.length_cons, List.length_nil, List.isEmpty_cons, List.isEmpty_nil] <;> rfl); try first | exact .inl rfl | exact .inr (by simp))
      | ((apply D.alloc cx_ok; decide; decide); (simp (disch := omega) only [push_cast, simprocAttr, hS, hZ, hk, hg, hc1, hc2, hfz, Nat.add_assoc, List.length_append, List.map_append, List.append_assoc, List.length_cons, List.length_nil, List.isEmpty_cons, List.isEmpty_nil] <;> rfl); (simp (disch := omega) only [push_cast, simprocAttr, hS, hZ, hk, hg, hc1, hc2, hfz, Nat.add_assoc, List.length_append, List.map_append, List.append_assoc, List.length_cons, List.length_nil, List.isEmpty_cons, List.isEmpty_nil, updH_at, Nat.add_assoc]); (simp (disch := omega) only [push_cast, simprocAttr, hS, hZ, hk, hg, hc1, hc2, hfz, Nat.add_assoc, List.length_append, List.map_append, List.append_assoc, List.length_cons, List.length_nil, List.isEmpty_cons, List.isEmpty_nil] <;> omega))
      | ((apply D.alloct cx_ok; decide; decide); (simp (disch := omega) only [push_cast, simprocAttr, hS, hZ, hk, hg, hc1, hc2, hfz, Nat.add_assoc, List.length_append, List.map_append, List.append_assoc, List.length_cons, List.length_nil, List.isEmpty_cons, List.isEmpty_nil] <;> rfl); first | exact .inl rfl | exact .inr (by simp))
      | (apply D.append cx_ok; decide; decide; rfl; rfl; rfl; decide; (iterate 3 (simp (disch := omega) only [push_cast, simprocAttr, hS, hZ, hk, hg, hc1, hc2, hfz, Nat.add_assoc, List.length_append, List.map_append, List.append_assoc, List.length_cons, List.length_nil, List.isEmpty_cons, List.isEmpty_nil] <;> rfl)); simp; (rfl); ((try dsimp only); (try simp only [List.length_map, List.length_append, List.length_cons, List.length_nil]); omega); ((try dsimp only); (try simp only [List.length_map, List.length_append, List.length_cons, List.length_nil]); omega); first | exact .inl rfl | exact .inr (by simp))
      | ((first | (apply W.callv cx_ok; decide) | (apply D.callv cx_ok; decide; decide) | (apply D.callvt cx_ok; decide; decide)); (iterate 2 (simp (disch := omega) only [push_cast, simprocAttr, hS, hZ, hk, hg, hc1, hc2, hfz, Nat.add_assoc, List.length_append, List.map_append, List.append_assoc, List.length_cons, List.length_nil, List.isEmpty_cons, List.isEmpty_nil] <;> rfl)); (with_reducible first | exact Itoa_ok _ (by omega) (by omega)); try first | rfl | (simp (disch := omega) only [push_cast, simprocAttr, hS, hZ, hk, hg, hc1, hc2, hfz, Nat.add_assoc, List.length_append, List.map_append, List.append_assoc, List.length_cons, List.length_nil, List.isEmpty_cons, List.isEmpty_nil] <;> rfl))
      | ((first | apply W.ret1 | apply W.end1); (iterate 2 (try (simp (disch := omega) only [push_cast, simprocAttr, hS, hZ, hk, hg, hc1, hc2, hfz, Nat.add_assoc, List.length_append, List.map_append, List.append_assoc, List.length_cons, List.length_nil, List.isEmpty_cons, List.isEmpty_nil] <;> rfl))))
    all_goals
      (have hp1' : (out ++ [spanB x]) ++ rest.map spanB = l.map spanB := by simpa using hp1
       (refine ⟨rest.length, ?_, k + 1, out ++ [spanB x], rest, rfl, hd', hp1', (by simp; omega), ?_, ?_, ?_, ?_, ?_, ?_⟩; ((simp only [List.length_cons] at *; omega)); all_goals first | (simp (disch := omega) only [push_cast, simprocAttr, hS, hZ, hg, hk, spanB, List.length_append, List.map_append, List.append_assoc, List.length_cons, List.length_nil, List.isEmpty_cons, List.isEmpty_nil] <;> first | rfl | omega) | omega))

end Go.Proofs.Hs

namespace Go.Proofs.Hs
open Go Go.Pg Go.Proofs

def exH : House := ⟨[⟨(ByteArray.mk #[103, 97, 116, 101]), 0⟩, ⟨(ByteArray.mk #[109, 105, 108, 108]), 0⟩, ⟨(ByteArray.mk #[108, 111, 102, 116]), 1⟩], [⟨[⟨21600, 64800⟩], []⟩], [⟨0, 1, 60, 60, -1⟩, ⟨1, 2, 30, 0, 0⟩]⟩

section
variable {N : Nat} {Q : Exit → St → Prop} {s : St} {ops : Array Oper} {rest : List Oper} {d : Nat} {ty : TypeId} {ps : String} {af : Array Edge}
theorem P.frz98 {t id off n : Nat} {v : AV} (ht : s.tm t = .ref id off n) (hv : viewA s.H (.ref id off n) = some v)
    (k : AWL cx N ops Q (⟨some d, .build 98 #[(0, .tmp t)], ty, ps, af, none⟩ :: rest) { tm := upd s.tm t v, H := frz' s.H [id], nx := s.nx }) :
    AWL cx N ops Q (⟨some d, .build 98 #[(0, .tmp t)], ty, ps, af, none⟩ :: rest) s := by
  refine AWL.freeze (t := t) (v := v) (by rw [ht]; exact hv) ?_
  rw [ht]; exact k
end
theorem AWr.step {C : Cx} {N : Nat} {c : Code} {Q : Exit → St → Prop} {n : Nat} {s : St} (h : AW C N c (thenQ (AWr C N c Q n) Q) s) : AWr C N c Q (n + 1) s := h

theorem ex_ok : OKv cx 72 [] (.agg (eHouse exH)) := by
  refine OKat.of_bodyM cx_ok (rs := [.cell 0 26]) Tryd.func72 rfl (by decide +kernel) rfl (by simp [Tryd.ntmps72]) ?_
  simp only [Tryd.ntmps72]
  repeat' first
  | ((apply P.frz98); (iterate 2 (simp (disch := omega) only [push_cast, simprocAttr, rowAt_frz1, Int.reduceAdd, Int.reduceLT, Int.reduceLE, Int.reduceToNat, Int.reduceNeg, Int.reduceEq, Int.cast_ofNat_Int, Int.natCast_one, Int.reduceBEq, Int.reduceBNe, Nat.add_assoc] <;> rfl)))
    | apply AW.seq | apply AW.region | apply AW.ret | apply AW.block | apply AW.skip | apply AW.exit | apply AW.scope | apply AW.label | apply AWL.nil
    | ((first | (apply W.step cx_ok; decide) | apply W.store cx_ok | apply AW.cond); (simp (disch := omega) only [push_cast, simprocAttr, rowAt_frz1, Int.reduceAdd, Int.reduceLT, Int.reduceLE, Int.reduceToNat, Int.reduceNeg, Int.reduceEq, Int.cast_ofNat_Int, Int.natCast_one, Int.reduceBEq, Int.reduceBNe, Nat.add_assoc] <;> rfl); all_goals try ((with_reducible intro hI); try first | (cases hI; done) | (simp only [INTS] at hI; try first | (exfalso; omega) | (have hT : True := hI; clear hT hI))))
    | ((first | apply W.retM | apply W.endM'); (iterate 2 (try (simp (disch := omega) only [push_cast, simprocAttr, rowAt_frz1, Int.reduceAdd, Int.reduceLT, Int.reduceLE, Int.reduceToNat, Int.reduceNeg, Int.reduceEq, Int.cast_ofNat_Int, Int.natCast_one, Int.reduceBEq, Int.reduceBNe, Nat.add_assoc] <;> rfl))))
  | ((apply P.frz98); (iterate 2 (simp (disch := omega) only [push_cast, simprocAttr, rowAt_frz1, Int.reduceAdd, Int.reduceLT, Int.reduceLE, Int.reduceToNat, Int.reduceNeg, Int.reduceEq, Int.cast_ofNat_Int, Int.natCast_one, Int.reduceBEq, Int.reduceBNe, Nat.add_assoc] <;> rfl)))
    | ((apply P.eqNil; decide); (simp (disch := omega) only [push_cast, simprocAttr, rowAt_frz1, Int.reduceAdd, Int.reduceLT, Int.reduceLE, Int.reduceToNat, Int.reduceNeg, Int.reduceEq, Int.cast_ofNat_Int, Int.natCast_one, Int.reduceBEq, Int.reduceBNe, Nat.add_assoc] <;> rfl))
    | ((apply P.eqNil'; decide); (simp (disch := omega) only [push_cast, simprocAttr, rowAt_frz1, Int.reduceAdd, Int.reduceLT, Int.reduceLE, Int.reduceToNat, Int.reduceNeg, Int.reduceEq, Int.cast_ofNat_Int, Int.natCast_one, Int.reduceBEq, Int.reduceBNe, Nat.add_assoc] <;> rfl))
    | ((first | (apply P.neqSame; decide)); (iterate 3 (simp (disch := omega) only [push_cast, simprocAttr, rowAt_frz1, Int.reduceAdd, Int.reduceLT, Int.reduceLE, Int.reduceToNat, Int.reduceNeg, Int.reduceEq, Int.cast_ofNat_Int, Int.natCast_one, Int.reduceBEq, Int.reduceBNe, Nat.add_assoc] <;> rfl)); exact Nat.zero_le _; exact Nat.zero_le _)
    | ((first | (apply P.toUnsafe; decide) | (apply P.fromUnsafe; decide)); (iterate 2 (simp (disch := omega) only [push_cast, simprocAttr, rowAt_frz1, Int.reduceAdd, Int.reduceLT, Int.reduceLE, Int.reduceToNat, Int.reduceNeg, Int.reduceEq, Int.cast_ofNat_Int, Int.natCast_one, Int.reduceBEq, Int.reduceBNe, Nat.add_assoc] <;> rfl)); exact Nat.zero_le _; rfl; rfl)
    | ((apply P.noEscape; decide); (simp (disch := omega) only [push_cast, simprocAttr, rowAt_frz1, Int.reduceAdd, Int.reduceLT, Int.reduceLE, Int.reduceToNat, Int.reduceNeg, Int.reduceEq, Int.cast_ofNat_Int, Int.natCast_one, Int.reduceBEq, Int.reduceBNe, Nat.add_assoc] <;> rfl))
    | ((apply AWL.appendS cx_ok rfl rfl; decide; rfl; rfl; rfl; rfl; rfl; rfl; rfl; rfl; exact byteZero; (iterate 2 (simp (disch := omega) only [push_cast, simprocAttr, rowAt_frz1, Int.reduceAdd, Int.reduceLT, Int.reduceLE, Int.reduceToNat, Int.reduceNeg, Int.reduceEq, Int.cast_ofNat_Int, Int.natCast_one, Int.reduceBEq, Int.reduceBNe, Nat.add_assoc] <;> rfl)); omega; ((try dsimp only); (try simp only [strE_length, List.length_nil]); omega)))
    | ((first | apply W.retX | apply W.endX); (simp (disch := omega) only [push_cast, simprocAttr, rowAt_frz1, Int.reduceAdd, Int.reduceLT, Int.reduceLE, Int.reduceToNat, Int.reduceNeg, Int.reduceEq, Int.cast_ofNat_Int, Int.natCast_one, Int.reduceBEq, Int.reduceBNe, Nat.add_assoc] <;> rfl); (refine ⟨?_, ?_, ?_⟩ <;> (first | rfl | (simp (disch := omega) only [push_cast, simprocAttr, rowAt_frz1, Int.reduceAdd, Int.reduceLT, Int.reduceLE, Int.reduceToNat, Int.reduceNeg, Int.reduceEq, Int.cast_ofNat_Int, Int.natCast_one, Int.reduceBEq, Int.reduceBNe, Nat.add_assoc] <;> rfl))))
  all_goals (show _ = _; rfl)

theorem exH_fit : exH.Fit := ⟨by decide, by decide, by decide, by decide, by decide⟩
theorem exH_check : Check exH = (0, -1) := by decide +kernel
theorem wordsL_ok (xs : List ByteArray) (es : List (List AV)) (he : es = xs.map eStr) (hN : xs.length ≤ 140737488355328) (hlen : (joinB xs (ByteArray.mk #[32])).size ≤ 140737488355328) : OKv cx 109 [.lst es] (at_ (wordsB xs)) := by
  subst he; exact words_ok xs hN hlen
theorem spansL_ok (l : List Span) (es : List (List AV)) (he : es = l.map eSpan) (hl : l.length ≤ 1048576) (hb : ∀ x ∈ l, 0 ≤ x.lo ∧ x.lo ≤ x.hi ∧ x.hi ≤ 2147483648) : OKv cx 111 [.lst es] (.lst ((l.map spanB).map eStr)) := by
  subst he; exact spans_ok l hl hb
theorem checkL_ok (cs : List AV) (he : cs = eHouse exH) : OKv cx 37 [.agg cs] (.tup [ai 0, ai (-1)]) := by
  subst he
  have := Check_ok exH exH_fit
  rw [exH_check] at this; exact this
theorem words_pos (xs : List ByteArray) : 0 < (wordsB xs).size := by
  unfold wordsB
  rw [ByteArray.size_append]
  have : (ByteArray.mk #[10]).size = 1 := rfl
  omega


end Go.Proofs.Hs
