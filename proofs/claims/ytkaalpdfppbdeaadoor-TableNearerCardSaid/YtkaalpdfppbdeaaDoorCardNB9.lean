/- Texts of the proof, part 9. -/
import Derived.Shelf.Strings.Builder1
import Derived.Shelf.Strings.Builder2
import Derived.Shelf.Strings.OnBuilder
import Derived.Shelf.Strings.BuilderF
import Derived.Shelf.Strings.BuilderK
import Derived.Shelf.Strings.Builder2Cap
import Derived.Shelf.Strconv.Itoa0
import Derived.Shelf.Strconv.Itoa1
import Derived.Shelf.LaysM
import Derived.Shelf.Strconv.Itoa2
import Derived.Shelf.Strconv.Itoa3
import Derived.Shelf.Strings.BuilderCap
import Derived.Shelf.Slices.Equal
import Derived.Shelf.Slices.Empties2
import Derived.Test.YtkaalpdfppbdeaaDoorProg
import Derived.Test.YtkaalpdfppbdeaaDoorCardNB8
/-
  DERIVED: THE SHELF's CONTRACTS AT THIS DUMP, IN PLAIN WORDS (tools/lay-plain.mjs out of 'TrydShelf.lean', which tools/lay-shelf.mjs wrote): THE SAME DECLARATIONS UNDER THE SAME NAMES: 'import', 'namespace', 'open', 'def', 'theorem' AND NOTHING ELSE: no command of the shelf's: FOR A HAND-IN. Each laying: the table of numbers ('.._ren') and one theorem, a field a fact of the dump's own or the kernel's comparison; each contract: ONE APPLICATION.
-/
namespace Go.Proofs
open Go.Shelf
def Tryd.lays169_ren : Go.Shelf.Ren := ⟨fun | 169 => 43 | n => n, fun | 70 => 65 | 9 => 9 | 0 => 0 | 72 => 68 | 37 => 66 | 127 => 94 | 3 => 3 | 5 => 5 | n => n, fun | n => n⟩
theorem Tryd.lays169 : Go.Proofs.Lays.n169 Tryd.prog Tryd.lays169_ren := {
  mixed := by kernel_rfl
  f169 := Tryd.func43.trans (congrArg some (by kernel_rfl))
  t0 := Tryd.underlying0
  a0 := Tryd.isAgg0
  z0 := Tryd.sizeOf0
  v0 := Tryd.zeroValue0
  t3 := Tryd.underlying3
  a3 := Tryd.isAgg3
  z3 := Tryd.sizeOf3
  v3 := Tryd.zeroValue3
  t9 := Tryd.underlying9
  a9 := Tryd.isAgg9
  z9 := Tryd.sizeOf9
  v9 := Tryd.zeroValue9
  t37 := Tryd.underlying66
  a37 := Tryd.isAgg66
  z37 := Tryd.sizeOf66
  v37 := Tryd.zeroValue66
  t70 := Tryd.underlying65
  a70 := Tryd.isAgg65
  z70 := Tryd.sizeOf65
  v70 := Tryd.zeroValue65
  t72 := Tryd.underlying68
  a72 := Tryd.isAgg68
  z72 := Tryd.sizeOf68
  v72 := Tryd.zeroValue68
  t127 := Tryd.underlying94
  a127 := Tryd.isAgg94
  z127 := Tryd.sizeOf94
  v127 := Tryd.zeroValue94 }
theorem Tryd.Builder_Extra_169 : Builder.Extra Tryd.prog Tryd.lays169_ren := {
  sizeBuilder := by kernel_rfl
  liesBuilder := by kernel_rfl
  t5 := Tryd.underlying5
  a5 := Tryd.isAgg5
  z5 := Tryd.sizeOf5
  v5 := Tryd.zeroValue5
  infoByte := by kernel_rfl
  cellsByte := by kernel_rfl
  sizeByte := by kernel_rfl
  neB5 := by decide }
open Go.RowKit in
/-- (*strings.Builder).String: "String returns the accumulated string.": OF A BUILDER THAT HOLDS AT LEAST ONE BYTE. ✋ THE MODEL FREEZES THOSE BYTES IN THE BUFFER (unsafe.String): a later write INTO them ends the model's run without an answer; a later append BEHIND them goes on. The statement's order of evaluation is drawn: one draw. (LAID: no walk: one application.) -/
theorem Tryd.Builder_String (B b : Nat) (l : List UInt8) (w : World) (h : Lib.IsBuilder 68 5 B b (Lib.byteCells l) w) (h0 : l ≠ []) :
    Calls Tryd.prog 43 #[.pointer (some ⟨b, 0, none⟩)] w fun e w' => e = .returned (.string ⟨l.toArray⟩) ∧ Below B w w' := Any.Builder_String Tryd.lays169 Tryd.Builder_Extra_169 B b l w h h0
open Go.RowKit in
/-- (*strings.Builder).String OF A BUILDER THAT HOLDS NO BYTE: the empty string. (Its buffer is nil, or a row of which it has taken nothing yet; where that row has NO capacity the model lays one new block for unsafe.SliceData's 'some address'.) One draw. (LAID: no walk: one application.) -/
theorem Tryd.Builder_String_empty (B b : Nat) (w : World) (h : Lib.IsBuilder 68 5 B b [] w) (hBw : B ≤ w.heap.size) :
    Calls Tryd.prog 43 #[.pointer (some ⟨b, 0, none⟩)] w fun e w' => e = .returned (.string ⟨#[]⟩) ∧ Below B w w' := Any.Builder_String_empty Tryd.lays169 Tryd.Builder_Extra_169 B b w h hBw
open Go.RowKit in
/-- (*strings.Builder).String: "String returns the accumulated string.": WHATEVER THE BUILDER HOLDS. (LAID: no walk: one application.) -/
theorem Tryd.Builder_String_any (B b : Nat) (l : List UInt8) (w : World) (h : Lib.IsBuilder 68 5 B b (Lib.byteCells l) w) (hBw : B ≤ w.heap.size) :
    Calls Tryd.prog 43 #[.pointer (some ⟨b, 0, none⟩)] w fun e w' => e = .returned (.string ⟨l.toArray⟩) ∧ Below B w w' := Any.Builder_String_any Tryd.lays169 Tryd.Builder_Extra_169 B b l w h hBw
def Tryd.lays241_ren : Go.Shelf.Ren := ⟨fun | 241 => 89 | 277 => 98 | n => n, fun | 70 => 65 | 3 => 3 | 0 => 0 | 72 => 68 | 37 => 66 | 5 => 5 | n => n, fun | n => n⟩
theorem Tryd.lays241 : Go.Proofs.Lays.n241 Tryd.prog Tryd.lays241_ren := {
  mixed := by kernel_rfl
  f241 := Tryd.func89.trans (congrArg some (by kernel_rfl))
  f277 := Tryd.func98.trans (congrArg some (by kernel_rfl))
  t0 := Tryd.underlying0
  a0 := Tryd.isAgg0
  z0 := Tryd.sizeOf0
  v0 := Tryd.zeroValue0
  t3 := Tryd.underlying3
  a3 := Tryd.isAgg3
  z3 := Tryd.sizeOf3
  v3 := Tryd.zeroValue3
  t37 := Tryd.underlying66
  a37 := Tryd.isAgg66
  z37 := Tryd.sizeOf66
  v37 := Tryd.zeroValue66
  t70 := Tryd.underlying65
  a70 := Tryd.isAgg65
  z70 := Tryd.sizeOf65
  v70 := Tryd.zeroValue65
  t72 := Tryd.underlying68
  a72 := Tryd.isAgg68
  z72 := Tryd.sizeOf68
  v72 := Tryd.zeroValue68 }
theorem Tryd.Builder_Extra_241 : Builder.Extra Tryd.prog Tryd.lays241_ren := {
  sizeBuilder := by kernel_rfl
  liesBuilder := by kernel_rfl
  t5 := Tryd.underlying5
  a5 := Tryd.isAgg5
  z5 := Tryd.sizeOf5
  v5 := Tryd.zeroValue5
  infoByte := by kernel_rfl
  cellsByte := by kernel_rfl
  sizeByte := by kernel_rfl
  neB5 := by decide }
open Go.RowKit in
/-- (*strings.Builder).grow (no doc but "grow copies the buffer to a new, larger buffer so that there are at least n bytes of capacity beyond len(b.buf)."): AT A BUILDER WITHOUT A BUFFER: a new row of whatever bytes for its buffer, none of them its own yet. Three draws. (LAID: no walk: one application.) -/
theorem Tryd.Builder_grow_fresh (B b n : Nat) (w : World) (hB : B ≤ b) (hbk : w.heap[b]? = some (.cells #[.pointer (some ⟨b, 0, none⟩), .slice none 0 0] 68 (0, 0))) (hBw : B ≤ w.heap.size) (hn : n ≤ 281474976710656) :
    Calls Tryd.prog 89 #[.pointer (some ⟨b, 0, none⟩), .int .i64 n] w fun e w' => e = .returned (.tuple #[]) ∧ (Lib.BuilderAt 68 5 B b (.pointer (some ⟨b, 0, none⟩)) [] w' ∧ Below B w w') := Any.Builder_grow_fresh Tryd.lays241 Tryd.Builder_Extra_241 B b n w hB hbk hBw hn
def Tryd.lays165_ren : Go.Shelf.Ren := ⟨fun | 165 => 80 | 240 => 79 | 241 => 89 | 276 => 88 | 277 => 98 | n => n, fun | 70 => 65 | 3 => 3 | 0 => 0 | 4 => 4 | 9 => 9 | 20 => 20 | 72 => 68 | 37 => 66 | 164 => 107 | 5 => 5 | n => n, fun | n => n⟩
theorem Tryd.lays165 : Go.Proofs.Lays.n165 Tryd.prog Tryd.lays165_ren := {
  mixed := by kernel_rfl
  f165 := Tryd.func80.trans (congrArg some (by kernel_rfl))
  f240 := Tryd.func79.trans (congrArg some (by kernel_rfl))
  f241 := Tryd.func89.trans (congrArg some (by kernel_rfl))
  f276 := Tryd.func88.trans (congrArg some (by kernel_rfl))
  f277 := Tryd.func98.trans (congrArg some (by kernel_rfl))
  t0 := Tryd.underlying0
  a0 := Tryd.isAgg0
  z0 := Tryd.sizeOf0
  v0 := Tryd.zeroValue0
  t3 := Tryd.underlying3
  a3 := Tryd.isAgg3
  z3 := Tryd.sizeOf3
  v3 := Tryd.zeroValue3
  t4 := Tryd.underlying4
  a4 := Tryd.isAgg4
  z4 := Tryd.sizeOf4
  v4 := Tryd.zeroValue4
  t9 := Tryd.underlying9
  a9 := Tryd.isAgg9
  z9 := Tryd.sizeOf9
  v9 := Tryd.zeroValue9
  t20 := Tryd.underlying20
  a20 := Tryd.isAgg20
  z20 := Tryd.sizeOf20
  v20 := Tryd.zeroValue20
  t37 := Tryd.underlying66
  a37 := Tryd.isAgg66
  z37 := Tryd.sizeOf66
  v37 := Tryd.zeroValue66
  t70 := Tryd.underlying65
  a70 := Tryd.isAgg65
  z70 := Tryd.sizeOf65
  v70 := Tryd.zeroValue65
  t72 := Tryd.underlying68
  a72 := Tryd.isAgg68
  z72 := Tryd.sizeOf68
  v72 := Tryd.zeroValue68
  t164 := Tryd.underlying107
  a164 := Tryd.isAgg107
  z164 := Tryd.sizeOf107
  v164 := Tryd.zeroValue107 }
theorem Tryd.Builder_Extra_165 : Builder.Extra Tryd.prog Tryd.lays165_ren := {
  sizeBuilder := by kernel_rfl
  liesBuilder := by kernel_rfl
  t5 := Tryd.underlying5
  a5 := Tryd.isAgg5
  z5 := Tryd.sizeOf5
  v5 := Tryd.zeroValue5
  infoByte := by kernel_rfl
  cellsByte := by kernel_rfl
  sizeByte := by kernel_rfl
  neB5 := by decide }
open Go.RowKit in
/-- (*strings.Builder).Grow AT A BUILDER THAT HAS NOT BEEN WRITTEN ('var b strings.Builder; b.Grow(n)'): "Grow grows b's capacity, if necessary, to guarantee space for another n bytes.": it holds no byte behind it as before it. (LAID: no walk: one application.) -/
theorem Tryd.Builder_Grow_fresh (B b n : Nat) (w : World) (hB : B ≤ b) (hbk : w.heap[b]? = some (.cells #[.pointer none, .slice none 0 0] 68 (0, 0))) (hBw : B ≤ w.heap.size) (hn : n ≤ 281474976710656) :
    Calls Tryd.prog 80 #[.pointer (some ⟨b, 0, none⟩), .int .i64 n] w fun e w' => e = .returned (.tuple #[]) ∧ (Lib.BuilderAt 68 5 B b (.pointer (some ⟨b, 0, none⟩)) [] w' ∧ Below B w w') := Any.Builder_Grow_fresh Tryd.lays165 Tryd.Builder_Extra_165 B b n w hB hbk hBw hn
def Tryd.lays156_ren : Go.Shelf.Ren := ⟨fun | 156 => 66 | 165 => 80 | 166 => 65 | 169 => 43 | 240 => 79 | 241 => 89 | 276 => 88 | 277 => 98 | n => n, fun | 31 => 70 | 9 => 9 | 3 => 3 | 4 => 4 | 0 => 0 | 20 => 20 | 72 => 68 | 76 => 89 | 70 => 65 | 37 => 66 | 75 => 88 | 127 => 94 | 164 => 107 | 5 => 5 | 80 => 72 | n => n, fun | n => n⟩
theorem Tryd.lays156 : Go.Proofs.Lays.n156 Tryd.prog Tryd.lays156_ren := {
  mixed := by kernel_rfl
  f156 := Tryd.func66.trans (congrArg some (by kernel_rfl))
  f165 := Tryd.func80.trans (congrArg some (by kernel_rfl))
  f166 := Tryd.func65.trans (congrArg some (by kernel_rfl))
  f169 := Tryd.func43.trans (congrArg some (by kernel_rfl))
  f240 := Tryd.func79.trans (congrArg some (by kernel_rfl))
  f241 := Tryd.func89.trans (congrArg some (by kernel_rfl))
  f276 := Tryd.func88.trans (congrArg some (by kernel_rfl))
  f277 := Tryd.func98.trans (congrArg some (by kernel_rfl))
  t0 := Tryd.underlying0
  a0 := Tryd.isAgg0
  z0 := Tryd.sizeOf0
  v0 := Tryd.zeroValue0
  t3 := Tryd.underlying3
  a3 := Tryd.isAgg3
  z3 := Tryd.sizeOf3
  v3 := Tryd.zeroValue3
  t4 := Tryd.underlying4
  a4 := Tryd.isAgg4
  z4 := Tryd.sizeOf4
  v4 := Tryd.zeroValue4
  t9 := Tryd.underlying9
  a9 := Tryd.isAgg9
  z9 := Tryd.sizeOf9
  v9 := Tryd.zeroValue9
  t20 := Tryd.underlying20
  a20 := Tryd.isAgg20
  z20 := Tryd.sizeOf20
  v20 := Tryd.zeroValue20
  t31 := Tryd.underlying70
  a31 := Tryd.isAgg70
  z31 := Tryd.sizeOf70
  v31 := Tryd.zeroValue70
  t37 := Tryd.underlying66
  a37 := Tryd.isAgg66
  z37 := Tryd.sizeOf66
  v37 := Tryd.zeroValue66
  t70 := Tryd.underlying65
  a70 := Tryd.isAgg65
  z70 := Tryd.sizeOf65
  v70 := Tryd.zeroValue65
  t72 := Tryd.underlying68
  a72 := Tryd.isAgg68
  z72 := Tryd.sizeOf68
  v72 := Tryd.zeroValue68
  t75 := Tryd.underlying88
  a75 := Tryd.isAgg88
  z75 := Tryd.sizeOf88
  v75 := Tryd.zeroValue88
  t76 := Tryd.underlying89
  a76 := Tryd.isAgg89
  z76 := Tryd.sizeOf89
  v76 := Tryd.zeroValue89
  t127 := Tryd.underlying94
  a127 := Tryd.isAgg94
  z127 := Tryd.sizeOf94
  v127 := Tryd.zeroValue94
  t164 := Tryd.underlying107
  a164 := Tryd.isAgg107
  z164 := Tryd.sizeOf107
  v164 := Tryd.zeroValue107 }
theorem Tryd.Builder_Extra_156 : Builder.Extra Tryd.prog Tryd.lays156_ren := {
  sizeBuilder := by kernel_rfl
  liesBuilder := by kernel_rfl
  t5 := Tryd.underlying5
  a5 := Tryd.isAgg5
  z5 := Tryd.sizeOf5
  v5 := Tryd.zeroValue5
  infoByte := by kernel_rfl
  cellsByte := by kernel_rfl
  sizeByte := by kernel_rfl
  neB5 := by decide }
open Go.RowKit in
/-- No element: the empty string; the world is as it was. (Whatever the slice's address and capacity: a nil slice too.) (LAID: no walk: one application.) -/
theorem Tryd.strings_Join_none (a : Option Addr) (c : Nat) (sep : ByteArray) (w : World) :
    Calls Tryd.prog 66 #[.slice a 0 c, .string sep] w fun e w' => e = .returned (.string ⟨#[]⟩) ∧ w' = w := Any.strings_Join_none Tryd.lays156 Tryd.Builder_Extra_156 a c sep w
open Go.RowKit in
/-- strings.Join: "Join concatenates the elements of its first argument to create a single string. The separator string sep is placed between elements in the resulting string.": HOWEVER MANY ELEMENTS. Below the heap's end the world is as it was. (LAID: no walk: one application.) -/
theorem Tryd.strings_Join (bk o c : Nat) (xs : List ByteArray) (sep : ByteArray) (w : World) (hcells : ∀ (j : Nat) x, xs[j]? = some x → w.cell? ⟨bk, o + j, none⟩ = some (.string x)) (hbk : bk < w.heap.size) (hN : xs.length ≤ 140737488355328) (hcap : xs.length ≤ c) (hlen : (Lib.join (xs.map (·.data.toList)) sep.data.toList).length ≤ 140737488355328) :
    Calls Tryd.prog 66 #[.slice (some ⟨bk, o, none⟩) xs.length c, .string sep] w fun e w' => e = .returned (.string ⟨(Lib.join (xs.map (·.data.toList)) sep.data.toList).toArray⟩) ∧ Below w.heap.size w w' := Any.strings_Join Tryd.lays156 Tryd.Builder_Extra_156 bk o c xs sep w hcells hbk hN hcap hlen
open Go.RowKit in
/-- (*strings.Builder).String: "String returns the accumulated string.": OF A BUILDER THAT HOLDS AT LEAST ONE BYTE. ✋ THE MODEL FREEZES THOSE BYTES IN THE BUFFER (unsafe.String): a later write INTO them ends the model's run without an answer; a later append BEHIND them goes on. The statement's order of evaluation is drawn: one draw. THE FORM '_f': IT SAYS BESIDES THAT THE BUILDER IS A BUILDER STILL ('Lib.IsBuilderF', the same bytes): SO IT CAN BE WRITTEN ON: 'b.WriteString(b.String()[:k])'. (LAID: no walk: one application.) -/
theorem Tryd.Builder_String_f (B b : Nat) (l : List UInt8) (w : World) (h : Lib.IsBuilderF 68 5 B b (Lib.byteCells l) w) (h0 : l ≠ []) :
    Calls Tryd.prog 43 #[.pointer (some ⟨b, 0, none⟩)] w fun e w' => e = .returned (.string ⟨l.toArray⟩) ∧ (Lib.IsBuilderF 68 5 B b (Lib.byteCells l) w' ∧ Below B w w') := Any.Builder_String_f Tryd.lays169 Tryd.Builder_Extra_169 B b l w h h0
open Go.RowKit in
/-- (*strings.Builder).String OF A BUILDER THAT HOLDS NO BYTE: the empty string; THE FORM '_f': a builder still. (LAID: no walk: one application.) -/
theorem Tryd.Builder_String_empty_f (B b : Nat) (w : World) (h : Lib.IsBuilderF 68 5 B b [] w) (hBw : B ≤ w.heap.size) :
    Calls Tryd.prog 43 #[.pointer (some ⟨b, 0, none⟩)] w fun e w' => e = .returned (.string ⟨#[]⟩) ∧ (Lib.IsBuilderF 68 5 B b [] w' ∧ Below B w w') := Any.Builder_String_empty_f Tryd.lays169 Tryd.Builder_Extra_169 B b w h hBw
open Go.RowKit in
/-- (*strings.Builder).String: "String returns the accumulated string.": WHATEVER THE BUILDER HOLDS; THE FORM '_f': OF A BUILDER THAT MAY HAVE BEEN READ BEFORE; AND IT IS A BUILDER STILL, holding the same bytes: it can be written on. (LAID: no walk: one application.) -/
theorem Tryd.Builder_String_any_f (B b : Nat) (l : List UInt8) (w : World) (h : Lib.IsBuilderF 68 5 B b (Lib.byteCells l) w) (hBw : B ≤ w.heap.size) :
    Calls Tryd.prog 43 #[.pointer (some ⟨b, 0, none⟩)] w fun e w' => e = .returned (.string ⟨l.toArray⟩) ∧ (Lib.IsBuilderF 68 5 B b (Lib.byteCells l) w' ∧ Below B w w') := Any.Builder_String_any_f Tryd.lays169 Tryd.Builder_Extra_169 B b l w h hBw
open Go.RowKit in
/-- (*strings.Builder).String: "String returns the accumulated string.": OF A BUILDER THAT HOLDS AT LEAST ONE BYTE. ✋ THE MODEL FREEZES THOSE BYTES IN THE BUFFER (unsafe.String): a later write INTO them ends the model's run without an answer; a later append BEHIND them goes on. The statement's order of evaluation is drawn: one draw. THE FORM '_k': OVER 'Lib.IsBuilderF' (a builder that 'String()' may have read), AND WITH THE FRAME THAT REACHES ABOVE THE BUILDER: 'Lib.OthersKept': every block that is not b and is no row of uint8's stands as it stood: the iterator of a range among them. (LAID: no walk: one application.) -/
theorem Tryd.Builder_String_k (B b : Nat) (l : List UInt8) (w : World) (h : Lib.IsBuilderF 68 5 B b (Lib.byteCells l) w) (h0 : l ≠ []) :
    Calls Tryd.prog 43 #[.pointer (some ⟨b, 0, none⟩)] w fun e w' => e = .returned (.string ⟨l.toArray⟩) ∧ (Lib.IsBuilderF 68 5 B b (Lib.byteCells l) w' ∧ Below B w w' ∧ Lib.OthersKept 5 (some b) w w') := Any.Builder_String_k Tryd.lays169 Tryd.Builder_Extra_169 B b l w h h0
open Go.RowKit in
/-- (*strings.Builder).String OF A BUILDER THAT HOLDS NO BYTE: the empty string; THE FORM '_k': OVER 'Lib.IsBuilderF' (a builder that 'String()' may have read), AND WITH THE FRAME THAT REACHES ABOVE THE BUILDER: 'Lib.OthersKept': every block that is not b and is no row of uint8's stands as it stood: the iterator of a range among them. (LAID: no walk: one application.) -/
theorem Tryd.Builder_String_empty_k (B b : Nat) (w : World) (h : Lib.IsBuilderF 68 5 B b [] w) (hBw : B ≤ w.heap.size) :
    Calls Tryd.prog 43 #[.pointer (some ⟨b, 0, none⟩)] w fun e w' => e = .returned (.string ⟨#[]⟩) ∧ (Lib.IsBuilderF 68 5 B b [] w' ∧ Below B w w' ∧ Lib.OthersKept 5 (some b) w w') := Any.Builder_String_empty_k Tryd.lays169 Tryd.Builder_Extra_169 B b w h hBw
open Go.RowKit in
/-- (*strings.Builder).String: "String returns the accumulated string.": WHATEVER THE BUILDER HOLDS; THE FORM '_k': OVER 'Lib.IsBuilderF' (a builder that 'String()' may have read), AND WITH THE FRAME THAT REACHES ABOVE THE BUILDER: 'Lib.OthersKept': every block that is not b and is no row of uint8's stands as it stood: the iterator of a range among them. (LAID: no walk: one application.) -/
theorem Tryd.Builder_String_any_k (B b : Nat) (l : List UInt8) (w : World) (h : Lib.IsBuilderF 68 5 B b (Lib.byteCells l) w) (hBw : B ≤ w.heap.size) :
    Calls Tryd.prog 43 #[.pointer (some ⟨b, 0, none⟩)] w fun e w' => e = .returned (.string ⟨l.toArray⟩) ∧ (Lib.IsBuilderF 68 5 B b (Lib.byteCells l) w' ∧ Below B w w' ∧ Lib.OthersKept 5 (some b) w w') := Any.Builder_String_any_k Tryd.lays169 Tryd.Builder_Extra_169 B b l w h hBw
open Go.RowKit in
/-- (*strings.Builder).grow (no doc but "grow copies the buffer to a new, larger buffer so that there are at least n bytes of capacity beyond len(b.buf)."): AT A BUILDER WITHOUT A BUFFER: a new row of whatever bytes for its buffer, none of them its own yet. Three draws. (LAID: no walk: one application.) -/
theorem Tryd.Builder_grow_fresh_cap (B b n : Nat) (w : World) (hB : B ≤ b) (hbk : w.heap[b]? = some (.cells #[.pointer (some ⟨b, 0, none⟩), .slice none 0 0] 68 (0, 0))) (hBw : B ≤ w.heap.size) (hn : n ≤ 281474976710656) :
    Calls Tryd.prog 89 #[.pointer (some ⟨b, 0, none⟩), .int .i64 n] w fun e w' => e = .returned (.tuple #[]) ∧ (Lib.BuilderAt 68 5 B b (.pointer (some ⟨b, 0, none⟩)) [] w' ∧ Below B w w') ∧ ∃ p cap, w'.cell? ⟨b, 1, none⟩ = some (.slice p 0 cap) ∧ n ≤ cap := Any.Builder_grow_fresh_cap Tryd.lays241 Tryd.Builder_Extra_241 B b n w hB hbk hBw hn
open Go.RowKit in
/-- (*strings.Builder).Grow AT A BUILDER THAT HAS NOT BEEN WRITTEN ('var b strings.Builder; b.Grow(n)'): "Grow grows b's capacity, if necessary, to guarantee space for another n bytes.": it holds no byte behind it as before it. (LAID: no walk: one application.) -/
theorem Tryd.Builder_Grow_fresh_cap (B b n : Nat) (w : World) (hB : B ≤ b) (hbk : w.heap[b]? = some (.cells #[.pointer none, .slice none 0 0] 68 (0, 0))) (hBw : B ≤ w.heap.size) (hn : n ≤ 281474976710656) :
    Calls Tryd.prog 80 #[.pointer (some ⟨b, 0, none⟩), .int .i64 n] w fun e w' => e = .returned (.tuple #[]) ∧ (Lib.BuilderAt 68 5 B b (.pointer (some ⟨b, 0, none⟩)) [] w' ∧ Below B w w') ∧ ∃ p cap, w'.cell? ⟨b, 1, none⟩ = some (.slice p 0 cap) ∧ n ≤ cap := Any.Builder_Grow_fresh_cap Tryd.lays165 Tryd.Builder_Extra_165 B b n w hB hbk hBw hn
def Tryd.lays129_ren : Go.Shelf.Ren := ⟨fun | 129 => 100 | n => n, fun | 53 => 86 | 3 => 3 | 4 => 4 | 46 => 128 | 5 => 5 | 9 => 9 | n => n, fun | n => n⟩
theorem Tryd.lays129 : Go.Proofs.Lays.n129 Tryd.prog Tryd.lays129_ren := {
  mixed := by kernel_rfl
  f129 := Tryd.func100.trans (congrArg some (by kernel_rfl))
  t3 := Tryd.underlying3
  a3 := Tryd.isAgg3
  z3 := Tryd.sizeOf3
  v3 := Tryd.zeroValue3
  t4 := Tryd.underlying4
  a4 := Tryd.isAgg4
  z4 := Tryd.sizeOf4
  v4 := Tryd.zeroValue4
  t5 := Tryd.underlying5
  a5 := Tryd.isAgg5
  z5 := Tryd.sizeOf5
  v5 := Tryd.zeroValue5
  t9 := Tryd.underlying9
  a9 := Tryd.isAgg9
  z9 := Tryd.sizeOf9
  v9 := Tryd.zeroValue9
  t46 := Tryd.underlying128
  a46 := Tryd.isAgg128
  z46 := Tryd.sizeOf128
  v46 := Tryd.zeroValue128
  t53 := Tryd.underlying86
  a53 := Tryd.isAgg86
  z53 := Tryd.sizeOf86
  v53 := Tryd.zeroValue86 }
/-- bits.Len64: "Len64 returns the minimum number of bits required to represent x; the result is 0 for x == 0.": IT RETURNS 'Lib.bitLen x'; the world is as it was. ('h0', 'h1': x is a uint64.) (LAID: no walk: one application.) -/
theorem Tryd.bits_Len64 (x : Int) (w : World) (h0 : 0 ≤ x) (h1 : x ≤ 18446744073709551615) :
    Calls Tryd.prog 100 #[.int .u64 x] w fun e w' => e = .returned (.int .i64 (Lib.bitLen x.toNat)) ∧ w' = w := Any.bits_Len64 Tryd.lays129 x w h0 h1
def Tryd.lays317_ren : Go.Shelf.Ren := ⟨fun | 317 => 99 | n => n, fun | 3 => 3 | 46 => 128 | n => n, fun | n => n⟩
theorem Tryd.lays317 : Go.Proofs.Lays.n317 Tryd.prog Tryd.lays317_ren := {
  mixed := by kernel_rfl
  f317 := Tryd.func99.trans (congrArg some (by kernel_rfl))
  t3 := Tryd.underlying3
  a3 := Tryd.isAgg3
  z3 := Tryd.sizeOf3
  v3 := Tryd.zeroValue3
  t46 := Tryd.underlying128
  a46 := Tryd.isAgg128
  z46 := Tryd.sizeOf128
  v46 := Tryd.zeroValue128 }
open Go.Lib in
/-- internal/strconv.log10Pow2: "log10Pow2(x) returns ⌊log₁₀ 2**x⌋ = ⌊x * log₁₀ 2⌋.": '(x * 78913) >> 18', at an x up to 64 (a length in bits). The world is as it was. (LAID: no walk: one application.) -/
theorem Tryd.internal_strconv_log10Pow2 (x : Nat) (h : x ≤ 64) (w : World) :
    Calls Tryd.prog 99 #[.int .i64 x] w fun e w' => e = .returned (.int .i64 (Lib.l10 x)) ∧ w' = w := Any.internal_strconv_log10Pow2 Tryd.lays317 x h w
def Tryd.lays318_ren : Go.Shelf.Ren := ⟨fun | 318 => 101 | n => n, fun | 3 => 3 | 4 => 4 | n => n, fun | n => n⟩
theorem Tryd.lays318 : Go.Proofs.Lays.n318 Tryd.prog Tryd.lays318_ren := {
  mixed := by kernel_rfl
  f318 := Tryd.func101.trans (congrArg some (by kernel_rfl))
  t3 := Tryd.underlying3
  a3 := Tryd.isAgg3
  z3 := Tryd.sizeOf3
  v3 := Tryd.zeroValue3
  t4 := Tryd.underlying4
  a4 := Tryd.isAgg4
  z4 := Tryd.sizeOf4
  v4 := Tryd.zeroValue4 }
open Go.Lib in
/-- internal/strconv.bool2: "bool2 converts b to an integer: 1 for true, 0 for false." The world is as it was. (LAID: no walk: one application.) -/
theorem Tryd.internal_strconv_bool2_int (b : Bool) (w : World) :
    Calls Tryd.prog 101 #[.bool b] w fun e w' => e = .returned (.int .i64 (if b then 1 else 0)) ∧ w' = w := Any.internal_strconv_bool2_int Tryd.lays318 b w
def Tryd.lays283_ren : Go.Shelf.Ren := ⟨fun | 283 => 90 | n => n, fun | 3 => 3 | 9 => 9 | 4 => 4 | n => n, fun | n => n⟩
theorem Tryd.lays283 : Go.Proofs.Lays.n283 Tryd.prog Tryd.lays283_ren := {
  mixed := by kernel_rfl
  f283 := Tryd.func90.trans (congrArg some (by kernel_rfl))
  t3 := Tryd.underlying3
  a3 := Tryd.isAgg3
  z3 := Tryd.sizeOf3
  v3 := Tryd.zeroValue3
  t4 := Tryd.underlying4
  a4 := Tryd.isAgg4
  z4 := Tryd.sizeOf4
  v4 := Tryd.zeroValue4
  t9 := Tryd.underlying9
  a9 := Tryd.isAgg9
  z9 := Tryd.sizeOf9
  v9 := Tryd.zeroValue9 }
open Go.Lib in
/-- internal/strconv.small: "small returns the string for an i with 0 <= i < nSmalls.": i's decimal numeral. The world is as it was. (LAID: no walk: one application.) -/
theorem Tryd.internal_strconv_small (i : Nat) (h : i < 100) (w : World) :
    Calls Tryd.prog 90 #[.int .i64 i] w fun e w' => e = .returned (.string ⟨(Lib.decDigits i).toArray⟩) ∧ w' = w := Any.internal_strconv_small Tryd.lays283 i h w
def Tryd.laysM284_ren : Go.Shelf.Ren := ⟨fun | 284 => 91 | 129 => 100 | 317 => 99 | 318 => 101 | n => n, fun | 53 => 86 | 3 => 3 | 212 => 124 | 0 => 0 | 4 => 4 | 46 => 128 | 5 => 5 | 9 => 9 | n => n, fun | 17 => 0 | n => n⟩
theorem Tryd.laysM284 : Go.Proofs.LaysM.n284 Tryd.prog Tryd.laysM284_ren := {
  mixed := by kernel_rfl
  f129 := Tryd.func100.trans (congrArg some (by kernel_rfl))
  f284 := Tryd.func91.trans (congrArg some (by kernel_rfl))
  f317 := Tryd.func99.trans (congrArg some (by kernel_rfl))
  f318 := Tryd.func101.trans (congrArg some (by kernel_rfl))
  t0 := Tryd.underlying0
  a0 := Tryd.isAgg0
  z0 := Tryd.sizeOf0
  v0 := Tryd.zeroValue0
  t3 := Tryd.underlying3
  a3 := Tryd.isAgg3
  z3 := Tryd.sizeOf3
  v3 := Tryd.zeroValue3
  t4 := Tryd.underlying4
  a4 := Tryd.isAgg4
  z4 := Tryd.sizeOf4
  v4 := Tryd.zeroValue4
  t5 := Tryd.underlying5
  a5 := Tryd.isAgg5
  z5 := Tryd.sizeOf5
  v5 := Tryd.zeroValue5
  t9 := Tryd.underlying9
  a9 := Tryd.isAgg9
  z9 := Tryd.sizeOf9
  v9 := Tryd.zeroValue9
  t46 := Tryd.underlying128
  a46 := Tryd.isAgg128
  z46 := Tryd.sizeOf128
  v46 := Tryd.zeroValue128
  t53 := Tryd.underlying86
  a53 := Tryd.isAgg86
  z53 := Tryd.sizeOf86
  v53 := Tryd.zeroValue86
  t212 := Tryd.underlying124
  a212 := Tryd.isAgg124
  z212 := Tryd.sizeOf124
  v212 := Tryd.zeroValue124
  g17 := by kernel_rfl
  i0 := by kernel_rfl
  i3 := by kernel_rfl
  i4 := by kernel_rfl
  i5 := by kernel_rfl
  i9 := by kernel_rfl
  i46 := by kernel_rfl
  i53 := by kernel_rfl
  i212 := by kernel_rfl
  m17 := by kernel_rfl }
open Go.Lib in
/-- internal/strconv.numDigits, at a d that is not 0: THE NUMBER OF d's DECIMAL DIGITS. The world is as it was. (LAID: no walk: one application.) -/
theorem Tryd.internal_strconv_numDigits (u : Nat) (h1 : 1 ≤ u) (h2 : u < 18446744073709551616) (w : World) (htab : Lib.TabIs Tryd.prog w "internal/strconv.uint64pow10" .u64 Lib.pow10Tab) :
    Calls Tryd.prog 91 #[.int .u64 u] w fun e w' => e = .returned (.int .i64 (Lib.nDigits u)) ∧ w' = w := Any.internal_strconv_numDigits Tryd.laysM284 u h1 h2 w htab
def Tryd.lays285_ren : Go.Shelf.Ren := ⟨fun | 285 => 92 | n => n, fun | 37 => 66 | 53 => 86 | 3 => 3 | 4 => 4 | 51 => 125 | 9 => 9 | 5 => 5 | 0 => 0 | n => n, fun | n => n⟩
theorem Tryd.lays285 : Go.Proofs.Lays.n285 Tryd.prog Tryd.lays285_ren := {
  mixed := by kernel_rfl
  f285 := Tryd.func92.trans (congrArg some (by kernel_rfl))
  t0 := Tryd.underlying0
  a0 := Tryd.isAgg0
  z0 := Tryd.sizeOf0
  v0 := Tryd.zeroValue0
  t3 := Tryd.underlying3
  a3 := Tryd.isAgg3
  z3 := Tryd.sizeOf3
  v3 := Tryd.zeroValue3
  t4 := Tryd.underlying4
  a4 := Tryd.isAgg4
  z4 := Tryd.sizeOf4
  v4 := Tryd.zeroValue4
  t5 := Tryd.underlying5
  a5 := Tryd.isAgg5
  z5 := Tryd.sizeOf5
  v5 := Tryd.zeroValue5
  t9 := Tryd.underlying9
  a9 := Tryd.isAgg9
  z9 := Tryd.sizeOf9
  v9 := Tryd.zeroValue9
  t37 := Tryd.underlying66
  a37 := Tryd.isAgg66
  z37 := Tryd.sizeOf66
  v37 := Tryd.zeroValue66
  t51 := Tryd.underlying125
  a51 := Tryd.isAgg125
  z51 := Tryd.sizeOf125
  v51 := Tryd.zeroValue125
  t53 := Tryd.underlying86
  a53 := Tryd.isAgg86
  z53 := Tryd.sizeOf86
  v53 := Tryd.zeroValue86 }
open Go.RowKit Go.Sort Go.Lib in
/-- internal/strconv.formatBase10: "formatBase10 formats the decimal representation of u into a. The caller is responsible for ensuring that a is big enough to hold u. If a is too big, leading zeros will be filled in as needed.": THE ROW HOLDS u's DIGITS ('FmtInv .. 0 ..': every place t holds 'dg u (len - 1 - t)'); all else is as it was but for the count of draws. (LAID: no walk: one application.) -/
theorem Tryd.internal_strconv_formatBase10 (blk off cap : Nat) (u : Nat) (d : Array UInt8) (w : World) (hH : Holds (fun (b : UInt8) => Value.int .u8 (b.toNat : Int)) w blk off d) (hu : u < 10 ^ d.size) (hu64 : u < 18446744073709551616) (hsz : d.size < 4611686018427387904) :
    Calls Tryd.prog 92 #[.slice (some ⟨blk, off, none⟩) d.size cap, .int .u64 u] w fun e w' =>
      e = .returned (.tuple #[]) ∧ ∃ (n v' : Nat) (dk : Array UInt8), w' = (putRow (fun (b : UInt8) => Value.int .u8 (b.toNat : Int)) w blk off dk).drewN n ∧ FmtInv d.size u 0 v' dk := Any.internal_strconv_formatBase10 Tryd.lays285 blk off cap u d w hH hu hu64 hsz
def Tryd.laysM246_ren : Go.Shelf.Ren := ⟨fun | 246 => 81 | 283 => 90 | 284 => 91 | 285 => 92 | 286 => 93 | 129 => 100 | 317 => 99 | 318 => 101 | 319 => 102 | 320 => 103 | 337 => 106 | 338 => 107 | n => n, fun | 2 => 2 | 3 => 3 | 9 => 9 | 4 => 4 | 171 => 109 | 0 => 0 | 53 => 86 | 37 => 66 | 5 => 5 | 173 => 112 | 212 => 124 | 51 => 125 | 20 => 20 | 213 => 126 | 46 => 128 | 232 => 135 | 233 => 136 | n => n, fun | 17 => 0 | 18 => 2 | 19 => 3 | n => n⟩
theorem Tryd.laysM246 : Go.Proofs.LaysM.n246 Tryd.prog Tryd.laysM246_ren := {
  mixed := by kernel_rfl
  f129 := Tryd.func100.trans (congrArg some (by kernel_rfl))
  f246 := Tryd.func81.trans (congrArg some (by kernel_rfl))
  f283 := Tryd.func90.trans (congrArg some (by kernel_rfl))
  f284 := Tryd.func91.trans (congrArg some (by kernel_rfl))
  f285 := Tryd.func92.trans (congrArg some (by kernel_rfl))
  f286 := Tryd.func93.trans (congrArg some (by kernel_rfl))
  f317 := Tryd.func99.trans (congrArg some (by kernel_rfl))
  f318 := Tryd.func101.trans (congrArg some (by kernel_rfl))
  f319 := Tryd.func102.trans (congrArg some (by kernel_rfl))
  f320 := Tryd.func103.trans (congrArg some (by kernel_rfl))
  f337 := Tryd.func106.trans (congrArg some (by kernel_rfl))
  f338 := Tryd.func107.trans (congrArg some (by kernel_rfl))
  t0 := Tryd.underlying0
  a0 := Tryd.isAgg0
  z0 := Tryd.sizeOf0
  v0 := Tryd.zeroValue0
  t2 := Tryd.underlying2
  a2 := Tryd.isAgg2
  z2 := Tryd.sizeOf2
  v2 := Tryd.zeroValue2
  t3 := Tryd.underlying3
  a3 := Tryd.isAgg3
  z3 := Tryd.sizeOf3
  v3 := Tryd.zeroValue3
  t4 := Tryd.underlying4
  a4 := Tryd.isAgg4
  z4 := Tryd.sizeOf4
  v4 := Tryd.zeroValue4
  t5 := Tryd.underlying5
  a5 := Tryd.isAgg5
  z5 := Tryd.sizeOf5
  v5 := Tryd.zeroValue5
  t9 := Tryd.underlying9
  a9 := Tryd.isAgg9
  z9 := Tryd.sizeOf9
  v9 := Tryd.zeroValue9
  t20 := Tryd.underlying20
  a20 := Tryd.isAgg20
  z20 := Tryd.sizeOf20
  v20 := Tryd.zeroValue20
  t37 := Tryd.underlying66
  a37 := Tryd.isAgg66
  z37 := Tryd.sizeOf66
  v37 := Tryd.zeroValue66
  t46 := Tryd.underlying128
  a46 := Tryd.isAgg128
  z46 := Tryd.sizeOf128
  v46 := Tryd.zeroValue128
  t51 := Tryd.underlying125
  a51 := Tryd.isAgg125
  z51 := Tryd.sizeOf125
  v51 := Tryd.zeroValue125
  t53 := Tryd.underlying86
  a53 := Tryd.isAgg86
  z53 := Tryd.sizeOf86
  v53 := Tryd.zeroValue86
  t171 := Tryd.underlying109
  a171 := Tryd.isAgg109
  z171 := Tryd.sizeOf109
  v171 := Tryd.zeroValue109
  t173 := Tryd.underlying112
  a173 := Tryd.isAgg112
  z173 := Tryd.sizeOf112
  v173 := Tryd.zeroValue112
  t212 := Tryd.underlying124
  a212 := Tryd.isAgg124
  z212 := Tryd.sizeOf124
  v212 := Tryd.zeroValue124
  t213 := Tryd.underlying126
  a213 := Tryd.isAgg126
  z213 := Tryd.sizeOf126
  t232 := Tryd.underlying135
  a232 := Tryd.isAgg135
  z232 := Tryd.sizeOf135
  v232 := Tryd.zeroValue135
  t233 := Tryd.underlying136
  a233 := Tryd.isAgg136
  z233 := Tryd.sizeOf136
  v233 := Tryd.zeroValue136
  g17 := by kernel_rfl
  g18 := by kernel_rfl
  g19 := by kernel_rfl
  i0 := by kernel_rfl
  i2 := by kernel_rfl
  i3 := by kernel_rfl
  i4 := by kernel_rfl
  i5 := by kernel_rfl
  i9 := by kernel_rfl
  i20 := by kernel_rfl
  i37 := by kernel_rfl
  i46 := by kernel_rfl
  i51 := by kernel_rfl
  i53 := by kernel_rfl
  i171 := by kernel_rfl
  i173 := by kernel_rfl
  i212 := by kernel_rfl
  i232 := by kernel_rfl
  i233 := by kernel_rfl
  m17 := by kernel_rfl
  m18 := by kernel_rfl
  m19 := by kernel_rfl }
open Go.RowKit Go.Sort Go.Lib in
/-- internal/strconv.FormatInt: "FormatInt returns the string representation of i in the given base": AT BASE 10: i's decimal numeral, for every int64. The world behind the call: the world before it, new blocks behind the heap, draws. (LAID: no walk: one application.) -/
theorem Tryd.internal_strconv_FormatInt_10 (n : Int) (h0 : -9223372036854775808 ≤ n) (h1 : n ≤ 9223372036854775807) (w : World) (htab : Lib.TabIs Tryd.prog w "internal/strconv.uint64pow10" .u64 Lib.pow10Tab) :
    Calls Tryd.prog 81 #[.int .i64 n, .int .i64 10] w fun e w' => e = .returned (.string ⟨(Lib.itoa n).toArray⟩) ∧ ∃ k os, w' = grow (w.drewN k) os := Any.internal_strconv_FormatInt_10 Tryd.laysM246 n h0 h1 w htab
def Tryd.lays246_ren : Go.Shelf.Ren := ⟨fun | 246 => 81 | 283 => 90 | 284 => 91 | 285 => 92 | 286 => 93 | 129 => 100 | 317 => 99 | 318 => 101 | 319 => 102 | 320 => 103 | 337 => 106 | 338 => 107 | n => n, fun | 2 => 2 | 3 => 3 | 9 => 9 | 4 => 4 | 171 => 109 | 0 => 0 | 53 => 86 | 37 => 66 | 5 => 5 | 173 => 112 | 212 => 124 | 51 => 125 | 20 => 20 | 213 => 126 | 46 => 128 | 232 => 135 | 233 => 136 | n => n, fun | 17 => 0 | 18 => 2 | 19 => 3 | n => n⟩
theorem Tryd.lays246 : Go.Proofs.Lays.n246 Tryd.prog Tryd.lays246_ren := {
  mixed := by kernel_rfl
  f129 := Tryd.func100.trans (congrArg some (by kernel_rfl))
  f246 := Tryd.func81.trans (congrArg some (by kernel_rfl))
  f283 := Tryd.func90.trans (congrArg some (by kernel_rfl))
  f284 := Tryd.func91.trans (congrArg some (by kernel_rfl))
  f285 := Tryd.func92.trans (congrArg some (by kernel_rfl))
  f286 := Tryd.func93.trans (congrArg some (by kernel_rfl))
  f317 := Tryd.func99.trans (congrArg some (by kernel_rfl))
  f318 := Tryd.func101.trans (congrArg some (by kernel_rfl))
  f319 := Tryd.func102.trans (congrArg some (by kernel_rfl))
  f320 := Tryd.func103.trans (congrArg some (by kernel_rfl))
  f337 := Tryd.func106.trans (congrArg some (by kernel_rfl))
  f338 := Tryd.func107.trans (congrArg some (by kernel_rfl))
  t0 := Tryd.underlying0
  a0 := Tryd.isAgg0
  z0 := Tryd.sizeOf0
  v0 := Tryd.zeroValue0
  t2 := Tryd.underlying2
  a2 := Tryd.isAgg2
  z2 := Tryd.sizeOf2
  v2 := Tryd.zeroValue2
  t3 := Tryd.underlying3
  a3 := Tryd.isAgg3
  z3 := Tryd.sizeOf3
  v3 := Tryd.zeroValue3
  t4 := Tryd.underlying4
  a4 := Tryd.isAgg4
  z4 := Tryd.sizeOf4
  v4 := Tryd.zeroValue4
  t5 := Tryd.underlying5
  a5 := Tryd.isAgg5
  z5 := Tryd.sizeOf5
  v5 := Tryd.zeroValue5
  t9 := Tryd.underlying9
  a9 := Tryd.isAgg9
  z9 := Tryd.sizeOf9
  v9 := Tryd.zeroValue9
  t20 := Tryd.underlying20
  a20 := Tryd.isAgg20
  z20 := Tryd.sizeOf20
  v20 := Tryd.zeroValue20
  t37 := Tryd.underlying66
  a37 := Tryd.isAgg66
  z37 := Tryd.sizeOf66
  v37 := Tryd.zeroValue66
  t46 := Tryd.underlying128
  a46 := Tryd.isAgg128
  z46 := Tryd.sizeOf128
  v46 := Tryd.zeroValue128
  t51 := Tryd.underlying125
  a51 := Tryd.isAgg125
  z51 := Tryd.sizeOf125
  v51 := Tryd.zeroValue125
  t53 := Tryd.underlying86
  a53 := Tryd.isAgg86
  z53 := Tryd.sizeOf86
  v53 := Tryd.zeroValue86
  t171 := Tryd.underlying109
  a171 := Tryd.isAgg109
  z171 := Tryd.sizeOf109
  v171 := Tryd.zeroValue109
  t173 := Tryd.underlying112
  a173 := Tryd.isAgg112
  z173 := Tryd.sizeOf112
  v173 := Tryd.zeroValue112
  t212 := Tryd.underlying124
  a212 := Tryd.isAgg124
  z212 := Tryd.sizeOf124
  v212 := Tryd.zeroValue124
  t213 := Tryd.underlying126
  a213 := Tryd.isAgg126
  z213 := Tryd.sizeOf126
  t232 := Tryd.underlying135
  a232 := Tryd.isAgg135
  z232 := Tryd.sizeOf135
  v232 := Tryd.zeroValue135
  t233 := Tryd.underlying136
  a233 := Tryd.isAgg136
  z233 := Tryd.sizeOf136
  v233 := Tryd.zeroValue136
  g17 := by kernel_rfl
  g18 := by kernel_rfl
  g19 := by kernel_rfl }
open Go.RowKit Go.Sort Go.Lib in
/-- THE ROAD WITHOUT THE TABLE: 0 <= i < 100: two constants are read, nothing is laid: no premise on the world, and the world is as it was. (LAID: no walk: one application.) -/
theorem Tryd.internal_strconv_FormatInt_10_small (i : Nat) (hi : i < 100) (w : World) :
    Calls Tryd.prog 81 #[.int .i64 i, .int .i64 10] w fun e w' => e = .returned (.string ⟨(Lib.decDigits i).toArray⟩) ∧ w' = w := Any.internal_strconv_FormatInt_10_small Tryd.lays246 i hi w
def Tryd.laysM243_ren : Go.Shelf.Ren := ⟨fun | 243 => 68 | 246 => 81 | 283 => 90 | 284 => 91 | 285 => 92 | 286 => 93 | 129 => 100 | 317 => 99 | 318 => 101 | 319 => 102 | 320 => 103 | 337 => 106 | 338 => 107 | n => n, fun | 3 => 3 | 9 => 9 | 2 => 2 | 4 => 4 | 171 => 109 | 0 => 0 | 53 => 86 | 37 => 66 | 5 => 5 | 173 => 112 | 212 => 124 | 51 => 125 | 20 => 20 | 213 => 126 | 46 => 128 | 232 => 135 | 233 => 136 | n => n, fun | 17 => 0 | 18 => 2 | 19 => 3 | n => n⟩
theorem Tryd.laysM243 : Go.Proofs.LaysM.n243 Tryd.prog Tryd.laysM243_ren := {
  mixed := by kernel_rfl
  f129 := Tryd.func100.trans (congrArg some (by kernel_rfl))
  f243 := Tryd.func68.trans (congrArg some (by kernel_rfl))
  f246 := Tryd.func81.trans (congrArg some (by kernel_rfl))
  f283 := Tryd.func90.trans (congrArg some (by kernel_rfl))
  f284 := Tryd.func91.trans (congrArg some (by kernel_rfl))
  f285 := Tryd.func92.trans (congrArg some (by kernel_rfl))
  f286 := Tryd.func93.trans (congrArg some (by kernel_rfl))
  f317 := Tryd.func99.trans (congrArg some (by kernel_rfl))
  f318 := Tryd.func101.trans (congrArg some (by kernel_rfl))
  f319 := Tryd.func102.trans (congrArg some (by kernel_rfl))
  f320 := Tryd.func103.trans (congrArg some (by kernel_rfl))
  f337 := Tryd.func106.trans (congrArg some (by kernel_rfl))
  f338 := Tryd.func107.trans (congrArg some (by kernel_rfl))
  t0 := Tryd.underlying0
  a0 := Tryd.isAgg0
  z0 := Tryd.sizeOf0
  v0 := Tryd.zeroValue0
  t2 := Tryd.underlying2
  a2 := Tryd.isAgg2
  z2 := Tryd.sizeOf2
  v2 := Tryd.zeroValue2
  t3 := Tryd.underlying3
  a3 := Tryd.isAgg3
  z3 := Tryd.sizeOf3
  v3 := Tryd.zeroValue3
  t4 := Tryd.underlying4
  a4 := Tryd.isAgg4
  z4 := Tryd.sizeOf4
  v4 := Tryd.zeroValue4
  t5 := Tryd.underlying5
  a5 := Tryd.isAgg5
  z5 := Tryd.sizeOf5
  v5 := Tryd.zeroValue5
  t9 := Tryd.underlying9
  a9 := Tryd.isAgg9
  z9 := Tryd.sizeOf9
  v9 := Tryd.zeroValue9
  t20 := Tryd.underlying20
  a20 := Tryd.isAgg20
  z20 := Tryd.sizeOf20
  v20 := Tryd.zeroValue20
  t37 := Tryd.underlying66
  a37 := Tryd.isAgg66
  z37 := Tryd.sizeOf66
  v37 := Tryd.zeroValue66
  t46 := Tryd.underlying128
  a46 := Tryd.isAgg128
  z46 := Tryd.sizeOf128
  v46 := Tryd.zeroValue128
  t51 := Tryd.underlying125
  a51 := Tryd.isAgg125
  z51 := Tryd.sizeOf125
  v51 := Tryd.zeroValue125
  t53 := Tryd.underlying86
  a53 := Tryd.isAgg86
  z53 := Tryd.sizeOf86
  v53 := Tryd.zeroValue86
  t171 := Tryd.underlying109
  a171 := Tryd.isAgg109
  z171 := Tryd.sizeOf109
  v171 := Tryd.zeroValue109
  t173 := Tryd.underlying112
  a173 := Tryd.isAgg112
  z173 := Tryd.sizeOf112
  v173 := Tryd.zeroValue112
  t212 := Tryd.underlying124
  a212 := Tryd.isAgg124
  z212 := Tryd.sizeOf124
  v212 := Tryd.zeroValue124
  t213 := Tryd.underlying126
  a213 := Tryd.isAgg126
  z213 := Tryd.sizeOf126
  t232 := Tryd.underlying135
  a232 := Tryd.isAgg135
  z232 := Tryd.sizeOf135
  v232 := Tryd.zeroValue135
  t233 := Tryd.underlying136
  a233 := Tryd.isAgg136
  z233 := Tryd.sizeOf136
  v233 := Tryd.zeroValue136
  g17 := by kernel_rfl
  g18 := by kernel_rfl
  g19 := by kernel_rfl
  i0 := by kernel_rfl
  i2 := by kernel_rfl
  i3 := by kernel_rfl
  i4 := by kernel_rfl
  i5 := by kernel_rfl
  i9 := by kernel_rfl
  i20 := by kernel_rfl
  i37 := by kernel_rfl
  i46 := by kernel_rfl
  i51 := by kernel_rfl
  i53 := by kernel_rfl
  i171 := by kernel_rfl
  i173 := by kernel_rfl
  i212 := by kernel_rfl
  i232 := by kernel_rfl
  i233 := by kernel_rfl
  m17 := by kernel_rfl
  m18 := by kernel_rfl
  m19 := by kernel_rfl }
open Go.RowKit Go.Sort Go.Lib in
/-- internal/strconv.Itoa: "Itoa is equivalent to FormatInt(int64(i), 10).": i's decimal numeral, for every int. (LAID: no walk: one application.) -/
theorem Tryd.internal_strconv_Itoa (n : Int) (h0 : -9223372036854775808 ≤ n) (h1 : n ≤ 9223372036854775807) (w : World) (htab : Lib.TabIs Tryd.prog w "internal/strconv.uint64pow10" .u64 Lib.pow10Tab) :
    Calls Tryd.prog 68 #[.int .i64 n] w fun e w' => e = .returned (.string ⟨(Lib.itoa n).toArray⟩) ∧ ∃ k os, w' = grow (w.drewN k) os := Any.internal_strconv_Itoa Tryd.laysM243 n h0 h1 w htab
def Tryd.lays243_ren : Go.Shelf.Ren := ⟨fun | 243 => 68 | 246 => 81 | 283 => 90 | 284 => 91 | 285 => 92 | 286 => 93 | 129 => 100 | 317 => 99 | 318 => 101 | 319 => 102 | 320 => 103 | 337 => 106 | 338 => 107 | n => n, fun | 3 => 3 | 9 => 9 | 2 => 2 | 4 => 4 | 171 => 109 | 0 => 0 | 53 => 86 | 37 => 66 | 5 => 5 | 173 => 112 | 212 => 124 | 51 => 125 | 20 => 20 | 213 => 126 | 46 => 128 | 232 => 135 | 233 => 136 | n => n, fun | 17 => 0 | 18 => 2 | 19 => 3 | n => n⟩
theorem Tryd.lays243 : Go.Proofs.Lays.n243 Tryd.prog Tryd.lays243_ren := {
  mixed := by kernel_rfl
  f129 := Tryd.func100.trans (congrArg some (by kernel_rfl))
  f243 := Tryd.func68.trans (congrArg some (by kernel_rfl))
  f246 := Tryd.func81.trans (congrArg some (by kernel_rfl))
  f283 := Tryd.func90.trans (congrArg some (by kernel_rfl))
  f284 := Tryd.func91.trans (congrArg some (by kernel_rfl))
  f285 := Tryd.func92.trans (congrArg some (by kernel_rfl))
  f286 := Tryd.func93.trans (congrArg some (by kernel_rfl))
  f317 := Tryd.func99.trans (congrArg some (by kernel_rfl))
  f318 := Tryd.func101.trans (congrArg some (by kernel_rfl))
  f319 := Tryd.func102.trans (congrArg some (by kernel_rfl))
  f320 := Tryd.func103.trans (congrArg some (by kernel_rfl))
  f337 := Tryd.func106.trans (congrArg some (by kernel_rfl))
  f338 := Tryd.func107.trans (congrArg some (by kernel_rfl))
  t0 := Tryd.underlying0
  a0 := Tryd.isAgg0
  z0 := Tryd.sizeOf0
  v0 := Tryd.zeroValue0
  t2 := Tryd.underlying2
  a2 := Tryd.isAgg2
  z2 := Tryd.sizeOf2
  v2 := Tryd.zeroValue2
  t3 := Tryd.underlying3
  a3 := Tryd.isAgg3
  z3 := Tryd.sizeOf3
  v3 := Tryd.zeroValue3
  t4 := Tryd.underlying4
  a4 := Tryd.isAgg4
  z4 := Tryd.sizeOf4
  v4 := Tryd.zeroValue4
  t5 := Tryd.underlying5
  a5 := Tryd.isAgg5
  z5 := Tryd.sizeOf5
  v5 := Tryd.zeroValue5
  t9 := Tryd.underlying9
  a9 := Tryd.isAgg9
  z9 := Tryd.sizeOf9
  v9 := Tryd.zeroValue9
  t20 := Tryd.underlying20
  a20 := Tryd.isAgg20
  z20 := Tryd.sizeOf20
  v20 := Tryd.zeroValue20
  t37 := Tryd.underlying66
  a37 := Tryd.isAgg66
  z37 := Tryd.sizeOf66
  v37 := Tryd.zeroValue66
  t46 := Tryd.underlying128
  a46 := Tryd.isAgg128
  z46 := Tryd.sizeOf128
  v46 := Tryd.zeroValue128
  t51 := Tryd.underlying125
  a51 := Tryd.isAgg125
  z51 := Tryd.sizeOf125
  v51 := Tryd.zeroValue125
  t53 := Tryd.underlying86
  a53 := Tryd.isAgg86
  z53 := Tryd.sizeOf86
  v53 := Tryd.zeroValue86
  t171 := Tryd.underlying109
  a171 := Tryd.isAgg109
  z171 := Tryd.sizeOf109
  v171 := Tryd.zeroValue109
  t173 := Tryd.underlying112
  a173 := Tryd.isAgg112
  z173 := Tryd.sizeOf112
  v173 := Tryd.zeroValue112
  t212 := Tryd.underlying124
  a212 := Tryd.isAgg124
  z212 := Tryd.sizeOf124
  v212 := Tryd.zeroValue124
  t213 := Tryd.underlying126
  a213 := Tryd.isAgg126
  z213 := Tryd.sizeOf126
  t232 := Tryd.underlying135
  a232 := Tryd.isAgg135
  z232 := Tryd.sizeOf135
  v232 := Tryd.zeroValue135
  t233 := Tryd.underlying136
  a233 := Tryd.isAgg136
  z233 := Tryd.sizeOf136
  v233 := Tryd.zeroValue136
  g17 := by kernel_rfl
  g18 := by kernel_rfl
  g19 := by kernel_rfl }
open Go.RowKit Go.Sort Go.Lib in
/-- THE ROAD WITHOUT THE TABLE: 0 <= i < 100. (LAID: no walk: one application.) -/
theorem Tryd.internal_strconv_Itoa_small (i : Nat) (hi : i < 100) (w : World) :
    Calls Tryd.prog 68 #[.int .i64 i] w fun e w' => e = .returned (.string ⟨(Lib.decDigits i).toArray⟩) ∧ w' = w := Any.internal_strconv_Itoa_small Tryd.lays243 i hi w
def Tryd.laysM171_ren : Go.Shelf.Ren := ⟨fun | 171 => 40 | 243 => 68 | 246 => 81 | 283 => 90 | 284 => 91 | 285 => 92 | 286 => 93 | 129 => 100 | 317 => 99 | 318 => 101 | 319 => 102 | 320 => 103 | 337 => 106 | 338 => 107 | n => n, fun | 3 => 3 | 9 => 9 | 2 => 2 | 4 => 4 | 171 => 109 | 0 => 0 | 53 => 86 | 37 => 66 | 5 => 5 | 173 => 112 | 212 => 124 | 51 => 125 | 20 => 20 | 213 => 126 | 46 => 128 | 232 => 135 | 233 => 136 | n => n, fun | 17 => 0 | 18 => 2 | 19 => 3 | n => n⟩
theorem Tryd.laysM171 : Go.Proofs.LaysM.n171 Tryd.prog Tryd.laysM171_ren := {
  mixed := by kernel_rfl
  f129 := Tryd.func100.trans (congrArg some (by kernel_rfl))
  f171 := Tryd.func40.trans (congrArg some (by kernel_rfl))
  f243 := Tryd.func68.trans (congrArg some (by kernel_rfl))
  f246 := Tryd.func81.trans (congrArg some (by kernel_rfl))
  f283 := Tryd.func90.trans (congrArg some (by kernel_rfl))
  f284 := Tryd.func91.trans (congrArg some (by kernel_rfl))
  f285 := Tryd.func92.trans (congrArg some (by kernel_rfl))
  f286 := Tryd.func93.trans (congrArg some (by kernel_rfl))
  f317 := Tryd.func99.trans (congrArg some (by kernel_rfl))
  f318 := Tryd.func101.trans (congrArg some (by kernel_rfl))
  f319 := Tryd.func102.trans (congrArg some (by kernel_rfl))
  f320 := Tryd.func103.trans (congrArg some (by kernel_rfl))
  f337 := Tryd.func106.trans (congrArg some (by kernel_rfl))
  f338 := Tryd.func107.trans (congrArg some (by kernel_rfl))
  t0 := Tryd.underlying0
  a0 := Tryd.isAgg0
  z0 := Tryd.sizeOf0
  v0 := Tryd.zeroValue0
  t2 := Tryd.underlying2
  a2 := Tryd.isAgg2
  z2 := Tryd.sizeOf2
  v2 := Tryd.zeroValue2
  t3 := Tryd.underlying3
  a3 := Tryd.isAgg3
  z3 := Tryd.sizeOf3
  v3 := Tryd.zeroValue3
  t4 := Tryd.underlying4
  a4 := Tryd.isAgg4
  z4 := Tryd.sizeOf4
  v4 := Tryd.zeroValue4
  t5 := Tryd.underlying5
  a5 := Tryd.isAgg5
  z5 := Tryd.sizeOf5
  v5 := Tryd.zeroValue5
  t9 := Tryd.underlying9
  a9 := Tryd.isAgg9
  z9 := Tryd.sizeOf9
  v9 := Tryd.zeroValue9
  t20 := Tryd.underlying20
  a20 := Tryd.isAgg20
  z20 := Tryd.sizeOf20
  v20 := Tryd.zeroValue20
  t37 := Tryd.underlying66
  a37 := Tryd.isAgg66
  z37 := Tryd.sizeOf66
  v37 := Tryd.zeroValue66
  t46 := Tryd.underlying128
  a46 := Tryd.isAgg128
  z46 := Tryd.sizeOf128
  v46 := Tryd.zeroValue128
  t51 := Tryd.underlying125
  a51 := Tryd.isAgg125
  z51 := Tryd.sizeOf125
  v51 := Tryd.zeroValue125
  t53 := Tryd.underlying86
  a53 := Tryd.isAgg86
  z53 := Tryd.sizeOf86
  v53 := Tryd.zeroValue86
  t171 := Tryd.underlying109
  a171 := Tryd.isAgg109
  z171 := Tryd.sizeOf109
  v171 := Tryd.zeroValue109
  t173 := Tryd.underlying112
  a173 := Tryd.isAgg112
  z173 := Tryd.sizeOf112
  v173 := Tryd.zeroValue112
  t212 := Tryd.underlying124
  a212 := Tryd.isAgg124
  z212 := Tryd.sizeOf124
  v212 := Tryd.zeroValue124
  t213 := Tryd.underlying126
  a213 := Tryd.isAgg126
  z213 := Tryd.sizeOf126
  t232 := Tryd.underlying135
  a232 := Tryd.isAgg135
  z232 := Tryd.sizeOf135
  v232 := Tryd.zeroValue135
  t233 := Tryd.underlying136
  a233 := Tryd.isAgg136
  z233 := Tryd.sizeOf136
  v233 := Tryd.zeroValue136
  g17 := by kernel_rfl
  g18 := by kernel_rfl
  g19 := by kernel_rfl
  i0 := by kernel_rfl
  i2 := by kernel_rfl
  i3 := by kernel_rfl
  i4 := by kernel_rfl
  i5 := by kernel_rfl
  i9 := by kernel_rfl
  i20 := by kernel_rfl
  i37 := by kernel_rfl
  i46 := by kernel_rfl
  i51 := by kernel_rfl
  i53 := by kernel_rfl
  i171 := by kernel_rfl
  i173 := by kernel_rfl
  i212 := by kernel_rfl
  i232 := by kernel_rfl
  i233 := by kernel_rfl
  m17 := by kernel_rfl
  m18 := by kernel_rfl
  m19 := by kernel_rfl }
open Go.RowKit Go.Sort Go.Lib in
/-- strconv.Itoa: "Itoa is equivalent to FormatInt(int64(i), 10).": i's DECIMAL NUMERAL ('Lib.itoa': a '-' where i is negative, then the digits), FOR EVERY int. The world behind the call: the world before it, new blocks behind the heap (the library's 'var a [24]byte'), draws. (LAID: no walk: one application.) -/
theorem Tryd.strconv_Itoa (n : Int) (h0 : -9223372036854775808 ≤ n) (h1 : n ≤ 9223372036854775807) (w : World) (htab : Lib.TabIs Tryd.prog w "internal/strconv.uint64pow10" .u64 Lib.pow10Tab) :
    Calls Tryd.prog 40 #[.int .i64 n] w fun e w' => e = .returned (.string ⟨(Lib.itoa n).toArray⟩) ∧ ∃ k os, w' = grow (w.drewN k) os := Any.strconv_Itoa Tryd.laysM171 n h0 h1 w htab
def Tryd.lays171_ren : Go.Shelf.Ren := ⟨fun | 171 => 40 | 243 => 68 | 246 => 81 | 283 => 90 | 284 => 91 | 285 => 92 | 286 => 93 | 129 => 100 | 317 => 99 | 318 => 101 | 319 => 102 | 320 => 103 | 337 => 106 | 338 => 107 | n => n, fun | 3 => 3 | 9 => 9 | 2 => 2 | 4 => 4 | 171 => 109 | 0 => 0 | 53 => 86 | 37 => 66 | 5 => 5 | 173 => 112 | 212 => 124 | 51 => 125 | 20 => 20 | 213 => 126 | 46 => 128 | 232 => 135 | 233 => 136 | n => n, fun | 17 => 0 | 18 => 2 | 19 => 3 | n => n⟩
theorem Tryd.lays171 : Go.Proofs.Lays.n171 Tryd.prog Tryd.lays171_ren := {
  mixed := by kernel_rfl
  f129 := Tryd.func100.trans (congrArg some (by kernel_rfl))
  f171 := Tryd.func40.trans (congrArg some (by kernel_rfl))
  f243 := Tryd.func68.trans (congrArg some (by kernel_rfl))
  f246 := Tryd.func81.trans (congrArg some (by kernel_rfl))
  f283 := Tryd.func90.trans (congrArg some (by kernel_rfl))
  f284 := Tryd.func91.trans (congrArg some (by kernel_rfl))
  f285 := Tryd.func92.trans (congrArg some (by kernel_rfl))
  f286 := Tryd.func93.trans (congrArg some (by kernel_rfl))
  f317 := Tryd.func99.trans (congrArg some (by kernel_rfl))
  f318 := Tryd.func101.trans (congrArg some (by kernel_rfl))
  f319 := Tryd.func102.trans (congrArg some (by kernel_rfl))
  f320 := Tryd.func103.trans (congrArg some (by kernel_rfl))
  f337 := Tryd.func106.trans (congrArg some (by kernel_rfl))
  f338 := Tryd.func107.trans (congrArg some (by kernel_rfl))
  t0 := Tryd.underlying0
  a0 := Tryd.isAgg0
  z0 := Tryd.sizeOf0
  v0 := Tryd.zeroValue0
  t2 := Tryd.underlying2
  a2 := Tryd.isAgg2
  z2 := Tryd.sizeOf2
  v2 := Tryd.zeroValue2
  t3 := Tryd.underlying3
  a3 := Tryd.isAgg3
  z3 := Tryd.sizeOf3
  v3 := Tryd.zeroValue3
  t4 := Tryd.underlying4
  a4 := Tryd.isAgg4
  z4 := Tryd.sizeOf4
  v4 := Tryd.zeroValue4
  t5 := Tryd.underlying5
  a5 := Tryd.isAgg5
  z5 := Tryd.sizeOf5
  v5 := Tryd.zeroValue5
  t9 := Tryd.underlying9
  a9 := Tryd.isAgg9
  z9 := Tryd.sizeOf9
  v9 := Tryd.zeroValue9
  t20 := Tryd.underlying20
  a20 := Tryd.isAgg20
  z20 := Tryd.sizeOf20
  v20 := Tryd.zeroValue20
  t37 := Tryd.underlying66
  a37 := Tryd.isAgg66
  z37 := Tryd.sizeOf66
  v37 := Tryd.zeroValue66
  t46 := Tryd.underlying128
  a46 := Tryd.isAgg128
  z46 := Tryd.sizeOf128
  v46 := Tryd.zeroValue128
  t51 := Tryd.underlying125
  a51 := Tryd.isAgg125
  z51 := Tryd.sizeOf125
  v51 := Tryd.zeroValue125
  t53 := Tryd.underlying86
  a53 := Tryd.isAgg86
  z53 := Tryd.sizeOf86
  v53 := Tryd.zeroValue86
  t171 := Tryd.underlying109
  a171 := Tryd.isAgg109
  z171 := Tryd.sizeOf109
  v171 := Tryd.zeroValue109
  t173 := Tryd.underlying112
  a173 := Tryd.isAgg112
  z173 := Tryd.sizeOf112
  v173 := Tryd.zeroValue112
  t212 := Tryd.underlying124
  a212 := Tryd.isAgg124
  z212 := Tryd.sizeOf124
  v212 := Tryd.zeroValue124
  t213 := Tryd.underlying126
  a213 := Tryd.isAgg126
  z213 := Tryd.sizeOf126
  t232 := Tryd.underlying135
  a232 := Tryd.isAgg135
  z232 := Tryd.sizeOf135
  v232 := Tryd.zeroValue135
  t233 := Tryd.underlying136
  a233 := Tryd.isAgg136
  z233 := Tryd.sizeOf136
  v233 := Tryd.zeroValue136
  g17 := by kernel_rfl
  g18 := by kernel_rfl
  g19 := by kernel_rfl }
open Go.RowKit Go.Sort Go.Lib in
/-- THE ROAD WITHOUT THE TABLE: 0 <= i < 100: NO PREMISE ON THE WORLD, AND THE WORLD IS AS IT WAS: a row that keeps its argument in that range need list no table ('laid = []'). (LAID: no walk: one application.) -/
theorem Tryd.strconv_Itoa_small (i : Nat) (hi : i < 100) (w : World) :
    Calls Tryd.prog 40 #[.int .i64 i] w fun e w' => e = .returned (.string ⟨(Lib.decDigits i).toArray⟩) ∧ w' = w := Any.strconv_Itoa_small Tryd.lays171 i hi w
def Tryd.lays111_ren : Go.Shelf.Ren := ⟨fun | 111 => 46 | n => n, fun | 28 => 29 | 3 => 3 | 4 => 4 | 0 => 0 | n => n, fun | n => n⟩
theorem Tryd.lays111 : Go.Proofs.Lays.n111 Tryd.prog Tryd.lays111_ren := {
  mixed := by kernel_rfl
  f111 := Tryd.func46.trans (congrArg some (by kernel_rfl))
  t0 := Tryd.underlying0
  a0 := Tryd.isAgg0
  z0 := Tryd.sizeOf0
  v0 := Tryd.zeroValue0
  t3 := Tryd.underlying3
  a3 := Tryd.isAgg3
  z3 := Tryd.sizeOf3
  v3 := Tryd.zeroValue3
  t4 := Tryd.underlying4
  a4 := Tryd.isAgg4
  z4 := Tryd.sizeOf4
  v4 := Tryd.zeroValue4
  t28 := Tryd.underlying29
  a28 := Tryd.isAgg29
  z28 := Tryd.sizeOf29
  v28 := Tryd.zeroValue29 }
open Go.RowKit Go.Lib in
/-- slices.Equal at []int: "Equal reports whether two slices are equal: the same length and all elements equal. If the lengths are different, Equal returns false. Otherwise, the elements are compared in increasing index order, and the comparison stops at the first unequal pair. Empty and nil slices are considered equal.": IT RETURNS WHETHER THE TWO LISTS OF ELEMENTS ARE ONE; the world is as it was but for the count of draws (the test 's1[i] != s2[i]' has two reads, whose order the model draws, once a round). 'xs', 'ys': what the cells behind the two addresses hold (the spare capacity too, if you have it); 'xs.take n', 'ys.take m': the elements. THE TWO SLICES MAY OVERLAP. (LAID: no walk: one application.) -/
theorem Tryd.slices_Equal_int (b1 o1 n c b2 o2 m d : Nat) (xs ys : List Int) (w : World) (hx : n ≤ xs.length) (hy : m ≤ ys.length) (hbig : n ≤ 9223372036854775807) (hbig2 : m ≤ 9223372036854775807) (hc1 : ∀ j, j < xs.length → w.cell? ⟨b1, o1 + j, none⟩ = some (.int .i64 (xs.getD j 0))) (hc2 : ∀ j, j < ys.length → w.cell? ⟨b2, o2 + j, none⟩ = some (.int .i64 (ys.getD j 0))) :
    Calls Tryd.prog 46 #[.slice (some ⟨b1, o1, none⟩) n c, .slice (some ⟨b2, o2, none⟩) m d] w fun e w' => e = .returned (.bool (xs.take n == ys.take m)) ∧ ∃ q, w' = w.drewN q := Any.slices_Equal_int Tryd.lays111 b1 o1 n c b2 o2 m d xs ys w hx hy hbig hbig2 hc1 hc2
open Go.RowKit Go.Lib in
/-- The same where the first is of length 0 (a nil one too): no cell is asked for. (LAID: no walk: one application.) -/
theorem Tryd.slices_Equal_int_empty (a1 a2 : Option Addr) (c m d : Nat) (w : World) (hbig2 : m ≤ 9223372036854775807) :
    Calls Tryd.prog 46 #[.slice a1 0 c, .slice a2 m d] w fun e w' => e = .returned (.bool (decide (m = 0))) ∧ w' = w := Any.slices_Equal_int_empty Tryd.lays111 a1 a2 c m d w hbig2
open Go.RowKit Go.Lib in
theorem Tryd.slices_Equal_int_lens (a1 a2 : Option Addr) (n c m d : Nat) (w : World) (hnm : n ≠ m) :
    Calls Tryd.prog 46 #[.slice a1 n c, .slice a2 m d] w fun e w' => e = .returned (.bool false) ∧ w' = w := Any.slices_Equal_int_lens Tryd.lays111 a1 a2 n c m d w hnm
end Go.Proofs

/- strings.Builder in its caller's own store, by pure walks; strconv.Itoa of small numbers, strings.Join by the shelf. -/
namespace Go.Proofs.YtkaalpdfppbdeaaDoor
set_option linter.unusedVariables false
set_option linter.unusedSimpArgs false
namespace PW
open Go.RowKit Reg Mem

/-- The store of a caller with a builder: its cells, j - 1 blocks that are gone, its bytes. -/
def bst (j : Nat) (u : Bool) (l : List UInt8) : Sto := some (.cells 68 [if u then .ptr 0 0 else .raw (.pointer none), .own j]) :: (List.replicate (j - 1) none ++ [some (.row 5 1 l.length (bytesP l))])
theorem info_bld : ∃ i, Tryd.prog.info? 68 = some i ∧ i.size = 2 := by
  have h : (Tryd.prog.info? 68).map (·.size) = some 2 := by kernel_rfl
  obtain ⟨i, h1, h2⟩ := Option.map_eq_some_iff.1 h
  exact ⟨i, h1, h2⟩
theorem noEscape_run (v : Value) (w : World) : (callFunc 88 #[v]).run Tryd.prog w = .ok (.value v) w := by
  rw [run_callFunc_extern Tryd.func88 (by kernel_rfl) (by kernel_rfl) (by kernel_rfl) (e := Extern.AbiNoEscape.same) (by kernel_rfl), Lib.run_noEscape]
  rfl
theorem byteK_here : byteK Tryd.prog 66 9 = some 5 := by kernel_rfl

set_option maxRecDepth 10000 in
set_option maxHeartbeats 1000000 in
theorem ccheck1 (u : Bool) (l : List UInt8) : CanS Tryd.prog 79 [.ptr 0 0] (bst 1 u l) (fun _ σ' => σ' = bst 1 true l) := by
  obtain ⟨ji, hji, hjs⟩ := info_bld
  refine canS_of Tryd.func79 rfl Tryd.ntmps79 rfl ?_
  cases u
  · refine W_rs ?_
    refine WR_val (y_move rfl rfl) rfl rfl rfl ?_
    refine WR_val (y_nilPtr rfl rfl) rfl rfl rfl ?_
    refine WR_val (y_a rfl) rfl rfl rfl ?_
    refine WR_val (y_loadPtr rfl (fok.tk.get rfl) rfl rfl rfl) rfl rfl rfl ?_
    refine WR_val (y_nilEql rfl (fok.pk.get rfl) rfl rfl) rfl rfl rfl (WR_nil ?_)
    refine W_condT rfl ?_
    refine W_region ?_
    refine WR_val (y_move rfl rfl) rfl rfl rfl ?_
    refine WR_val (y_move rfl rfl) rfl rfl rfl ?_
    refine WR_val (y_toUnsafe rfl Tryd.underlying65 Tryd.underlying107 hji (by rw [hjs]; decide) rfl rfl (by decide)) rfl rfl rfl ?_
    refine WR_val (y_callSame rfl rfl rfl noEscape_run) rfl rfl rfl ?_
    refine WR_val (y_fromUnsafe rfl Tryd.underlying107 Tryd.underlying65 hji rfl rfl (by kernel_rfl)) rfl rfl rfl ?_
    refine WR_val (y_nilPtr rfl rfl) rfl rfl rfl ?_
    refine WR_val (y_a rfl) rfl rfl rfl ?_
    refine WR_loud0 (l_store1 rfl (fok.tk.get rfl) rfl rfl rfl (Nat.le_of_ble_eq_true rfl)) rfl rfl (WR_nil ?_)
    exact ⟨_, .nil, rfl⟩
  · refine W_rs ?_
    refine WR_val (y_move rfl rfl) rfl rfl rfl ?_
    refine WR_val (y_nilPtr rfl rfl) rfl rfl rfl ?_
    refine WR_val (y_a rfl) rfl rfl rfl ?_
    refine WR_val (y_loadPtr rfl (fok.tk.get rfl) rfl rfl rfl) rfl rfl rfl ?_
    refine WR_val (y_ptrEql rfl (fok.pk.get rfl) rfl rfl) rfl rfl rfl (WR_nil ?_)
    refine W_condF rfl ?_
    refine W_rs ?_
    refine WR_val (y_move rfl rfl) rfl rfl rfl ?_
    refine WR_val (y_nilPtr rfl rfl) rfl rfl rfl ?_
    refine WR_val (y_a rfl) rfl rfl rfl ?_
    refine WR_val (y_loadPtr rfl (fok.tk.get rfl) rfl rfl rfl) rfl rfl rfl ?_
    refine WR_val (y_move rfl rfl) rfl rfl rfl ?_
    refine WR_val (y_ptrSame rfl Tryd.underlying65 hji rfl rfl) rfl rfl rfl (WR_nil ?_)
    refine W_condF rfl ?_
    exact W_skip ⟨_, .nil, rfl⟩

set_option maxRecDepth 10000 in
set_option maxHeartbeats 1000000 in
theorem wstr1 (u : Bool) (l : List UInt8) (s : ByteArray) (hn : l.length + s.size ≤ 1000000000) : CanS Tryd.prog 65 [.ptr 0 0, .raw (.string s)] (bst 1 u l) (fun _ σ' => σ' = bst 2 true (l ++ s.data.toList)) := by
  refine canS_of Tryd.func65 rfl Tryd.ntmps65 rfl ?_
  refine W_cs (.a 2 rfl <| .k [0, 1] rfl) ?_
  refine W_rs ?_
  refine WR_a 1 rfl <| WR_cS rfl rfl (CanS.mono (ccheck1 u l) (fun _ σ' h => ?_))
  subst h
  refine WR_k [0, 1] rfl ?_
  refine W_rs ?_
  refine WR_a 6 rfl <| WR_l (l_appendStr rfl byteK_here rfl rfl rfl (by omega)) rfl <| WR_a 3 rfl <| WR_k [1] rfl ?_
  refine W_cs (.a 1 rfl <| .v (y_lenStr rfl Tryd.underlying9 rfl) rfl <| .a 2 rfl <| .k [4, 5] rfl) ?_
  refine W_ret ?_
  refine ⟨_, ResL.of rfl, ?_⟩
  have hl : (l ++ s.data.toList).length = l.length + s.size := by simp
  unfold bst
  rw [hl, ← bytesP_append]
  rfl

set_option maxRecDepth 10000 in
set_option maxHeartbeats 1000000 in
theorem wbyte1 (u : Bool) (l : List UInt8) (c : UInt8) (hn : l.length ≤ 1000000000) : CanS Tryd.prog 67 [.ptr 0 0, .raw (.int .u8 c.toNat)] (bst 1 u l) (fun _ σ' => σ' = bst 2 true (l ++ [c])) := by
  refine canS_of Tryd.func67 rfl Tryd.ntmps67 rfl ?_
  refine W_cs (.a 1 rfl <| .k [0, 1] rfl) ?_
  refine W_rs ?_
  refine WR_a 1 rfl <| WR_cS rfl rfl (CanS.mono (ccheck1 u l) (fun _ σ' h => ?_))
  subst h
  refine WR_k [0, 1] rfl ?_
  refine W_rs ?_
  refine WR_a 7 rfl <| WR_l (l_append rfl (fok.rk.get rfl) rfl rfl rfl rfl (by unfold maxLen; omega)) rfl <| WR_a 3 rfl <| WR_k [] rfl ?_
  refine W_cs (.a 1 rfl <| .k [4] rfl) ?_
  refine W_ret ?_
  refine ⟨_, ResL.of rfl, ?_⟩
  unfold bst
  rw [← bytesP_append]
  simp only [List.length_append, List.length_singleton]
  rfl

set_option maxRecDepth 10000 in
set_option maxHeartbeats 1000000 in
theorem ccheck2 (u : Bool) (l : List UInt8) : CanS Tryd.prog 79 [.ptr 0 0] (bst 2 u l) (fun _ σ' => σ' = bst 2 true l) := by
  obtain ⟨ji, hji, hjs⟩ := info_bld
  refine canS_of Tryd.func79 rfl Tryd.ntmps79 rfl ?_
  cases u
  · refine W_rs ?_
    refine WR_val (y_move rfl rfl) rfl rfl rfl ?_
    refine WR_val (y_nilPtr rfl rfl) rfl rfl rfl ?_
    refine WR_val (y_a rfl) rfl rfl rfl ?_
    refine WR_val (y_loadPtr rfl (fok.tk.get rfl) rfl rfl rfl) rfl rfl rfl ?_
    refine WR_val (y_nilEql rfl (fok.pk.get rfl) rfl rfl) rfl rfl rfl (WR_nil ?_)
    refine W_condT rfl ?_
    refine W_region ?_
    refine WR_val (y_move rfl rfl) rfl rfl rfl ?_
    refine WR_val (y_move rfl rfl) rfl rfl rfl ?_
    refine WR_val (y_toUnsafe rfl Tryd.underlying65 Tryd.underlying107 hji (by rw [hjs]; decide) rfl rfl (by decide)) rfl rfl rfl ?_
    refine WR_val (y_callSame rfl rfl rfl noEscape_run) rfl rfl rfl ?_
    refine WR_val (y_fromUnsafe rfl Tryd.underlying107 Tryd.underlying65 hji rfl rfl (by kernel_rfl)) rfl rfl rfl ?_
    refine WR_val (y_nilPtr rfl rfl) rfl rfl rfl ?_
    refine WR_val (y_a rfl) rfl rfl rfl ?_
    refine WR_loud0 (l_store1 rfl (fok.tk.get rfl) rfl rfl rfl (Nat.le_of_ble_eq_true rfl)) rfl rfl (WR_nil ?_)
    exact ⟨_, .nil, rfl⟩
  · refine W_rs ?_
    refine WR_val (y_move rfl rfl) rfl rfl rfl ?_
    refine WR_val (y_nilPtr rfl rfl) rfl rfl rfl ?_
    refine WR_val (y_a rfl) rfl rfl rfl ?_
    refine WR_val (y_loadPtr rfl (fok.tk.get rfl) rfl rfl rfl) rfl rfl rfl ?_
    refine WR_val (y_ptrEql rfl (fok.pk.get rfl) rfl rfl) rfl rfl rfl (WR_nil ?_)
    refine W_condF rfl ?_
    refine W_rs ?_
    refine WR_val (y_move rfl rfl) rfl rfl rfl ?_
    refine WR_val (y_nilPtr rfl rfl) rfl rfl rfl ?_
    refine WR_val (y_a rfl) rfl rfl rfl ?_
    refine WR_val (y_loadPtr rfl (fok.tk.get rfl) rfl rfl rfl) rfl rfl rfl ?_
    refine WR_val (y_move rfl rfl) rfl rfl rfl ?_
    refine WR_val (y_ptrSame rfl Tryd.underlying65 hji rfl rfl) rfl rfl rfl (WR_nil ?_)
    refine W_condF rfl ?_
    exact W_skip ⟨_, .nil, rfl⟩

set_option maxRecDepth 10000 in
set_option maxHeartbeats 1000000 in
theorem wstr2 (u : Bool) (l : List UInt8) (s : ByteArray) (hn : l.length + s.size ≤ 1000000000) : CanS Tryd.prog 65 [.ptr 0 0, .raw (.string s)] (bst 2 u l) (fun _ σ' => σ' = bst 3 true (l ++ s.data.toList)) := by
  refine canS_of Tryd.func65 rfl Tryd.ntmps65 rfl ?_
  refine W_cs (.a 2 rfl <| .k [0, 1] rfl) ?_
  refine W_rs ?_
  refine WR_a 1 rfl <| WR_cS rfl rfl (CanS.mono (ccheck2 u l) (fun _ σ' h => ?_))
  subst h
  refine WR_k [0, 1] rfl ?_
  refine W_rs ?_
  refine WR_a 6 rfl <| WR_l (l_appendStr rfl byteK_here rfl rfl rfl (by omega)) rfl <| WR_a 3 rfl <| WR_k [1] rfl ?_
  refine W_cs (.a 1 rfl <| .v (y_lenStr rfl Tryd.underlying9 rfl) rfl <| .a 2 rfl <| .k [4, 5] rfl) ?_
  refine W_ret ?_
  refine ⟨_, ResL.of rfl, ?_⟩
  have hl : (l ++ s.data.toList).length = l.length + s.size := by simp
  unfold bst
  rw [hl, ← bytesP_append]
  rfl

set_option maxRecDepth 10000 in
set_option maxHeartbeats 1000000 in
theorem wbyte2 (u : Bool) (l : List UInt8) (c : UInt8) (hn : l.length ≤ 1000000000) : CanS Tryd.prog 67 [.ptr 0 0, .raw (.int .u8 c.toNat)] (bst 2 u l) (fun _ σ' => σ' = bst 3 true (l ++ [c])) := by
  refine canS_of Tryd.func67 rfl Tryd.ntmps67 rfl ?_
  refine W_cs (.a 1 rfl <| .k [0, 1] rfl) ?_
  refine W_rs ?_
  refine WR_a 1 rfl <| WR_cS rfl rfl (CanS.mono (ccheck2 u l) (fun _ σ' h => ?_))
  subst h
  refine WR_k [0, 1] rfl ?_
  refine W_rs ?_
  refine WR_a 7 rfl <| WR_l (l_append rfl (fok.rk.get rfl) rfl rfl rfl rfl (by unfold maxLen; omega)) rfl <| WR_a 3 rfl <| WR_k [] rfl ?_
  refine W_cs (.a 1 rfl <| .k [4] rfl) ?_
  refine W_ret ?_
  refine ⟨_, ResL.of rfl, ?_⟩
  unfold bst
  rw [← bytesP_append]
  simp only [List.length_append, List.length_singleton]
  rfl

set_option maxRecDepth 10000 in
set_option maxHeartbeats 1000000 in
theorem bstring (u : Bool) (l : List UInt8) (hl : 0 < l.length) : CanS Tryd.prog 43 [.ptr 0 0] (bst 1 u l) (fun r _ => r = .raw (.string ⟨l.toArray⟩)) := by
  refine canS_of Tryd.func43 rfl Tryd.ntmps43 rfl ?_
  cases u
  all_goals
    refine W_cs (.a 1 rfl <| .k [0] rfl) ?_
    refine W_dfs 10 8 mixed (
      .val [0] rfl (y_a rfl) rfl rfl <|
      .val [3] rfl (y_a rfl) rfl rfl <|
      .val [4] rfl (y_a rfl) rfl rfl <|
      .val [5] rfl (y_a rfl) rfl rfl <|
      .val [6] rfl (y_sliceData rfl rfl rfl hl) rfl rfl <|
      .val [0] rfl (y_a rfl) rfl rfl <|
      .val [8] rfl (y_a rfl) rfl rfl <|
      .val [9] rfl (y_a rfl) rfl rfl <|
      .val [10] rfl (y_a rfl) rfl rfl <|
      .val [11] rfl (y_a rfl) rfl rfl <|
      .nil) (by kernel_rfl) rfl rfl (keepT_sub (ks := [7, 12]) rfl) ?_
    refine WR_l (l_unsafeStr rfl Tryd.underlying94 (by kernel_rfl) rfl rfl rfl hl) rfl <| WR_a 1 rfl <| WR_k [2] rfl ?_
    refine W_ret ?_
    exact ⟨_, ResL.of rfl, rfl⟩

/-- The texts of the digits. -/
def strV (l : List UInt8) : PV := .raw (.string ⟨l.toArray⟩)
theorem itoa_small (i : Nat) (hi : i < 100) : Can Tryd.prog 40 [num i] (· = strV (Lib.decDigits i)) := fun F w vs _ hR => by
  obtain ⟨v, rfl, h1⟩ := args1 hR
  cases rep_raw h1
  refine (Tryd.strconv_Itoa_small i hi w).mono ?_
  rintro e w' ⟨rfl, rfl⟩
  exact ⟨_, rfl, Ext.refl _, _, rfl, .raw _⟩
def strsP (L : List (List UInt8)) : List PV := L.map strV
def strsV (L : List (List UInt8)) : PV := .slice L.length (strsP L)
instance (l : List UInt8) : IsPure (strV l) := by unfold strV; infer_instance
instance (l : List UInt8) : IsOne (strV l) := by unfold strV; infer_instance
instance (L : List (List UInt8)) : IsPureL (strsP L) := IsPureL.map _ _ fun _ => inferInstance
instance (L : List (List UInt8)) : IsOneL (strsP L) := IsOneL.map _ _ fun _ => inferInstance
instance (L : List (List UInt8)) : IsPure (strsV L) := by unfold strsV; infer_instance
theorem join_can (L : List (List UInt8)) (sep : List UInt8) (hLl : L.length ≤ 1000000) (hlen : (Lib.join L sep).length ≤ 140737488355328) : Can Tryd.prog 66 [strsV L, strV sep] (· = strV (Lib.join L sep)) := fun F w vs _ hR => by
  obtain ⟨v, u, rfl, h1, h2⟩ := args2 hR
  cases rep_raw h2
  have hmap : (L.map fun l => (⟨l.toArray⟩ : ByteArray)).map (·.data.toList) = L := by simp [Function.comp_def]
  unfold strsV at h1
  generalize hn : L.length = n at h1
  generalize hys : strsP L = ys at h1
  have none_case : ∀ (a : Option Addr) (c : Nat), L = [] → Calls Tryd.prog 66 #[.slice a 0 c, .string ⟨sep.toArray⟩] w (Ret (fun x w' => ∃ r, r = strV (Lib.join L sep) ∧ Rep (EF F) w' x r) w) := fun a c hL => by
    subst hL
    refine (Tryd.strings_Join_none a c ⟨sep.toArray⟩ w).mono ?_
    rintro e w' ⟨rfl, rfl⟩
    exact ⟨_, rfl, Ext.refl _, _, rfl, .raw _⟩
  cases h1 with
  | nils => exact none_case none 0 (List.eq_nil_of_length_eq_zero hn)
  | empty a c hc => exact none_case (some a) c (List.eq_nil_of_length_eq_zero hn)
  | slice b off _ c cs _ h0 h1 h2 hb hM hc hl hr =>
    have hcell : ∀ (j : Nat) x, (L.map fun l => (⟨l.toArray⟩ : ByteArray))[j]? = some x → w.cell? ⟨b, off + j, none⟩ = some (.string x) := fun j x hx => by
      simp only [List.getElem?_map, Option.map_eq_some_iff] at hx
      obtain ⟨l, hl1, rfl⟩ := hx
      have hj : j < cs.length := by rw [hl, ← hys]; simp [strsP]; exact (List.getElem?_eq_some_iff.1 hl1).1
      have h3 := hr j cs[j] (strV l) (by simp [hj]) (by simp [← hys, strsP, hl1])
      have h4 : cs[j] = .string ⟨l.toArray⟩ := rep_raw h3
      exact hc j _ (by simp [hj, h4])
    have h5 := Tryd.strings_Join b off c (L.map fun l => (⟨l.toArray⟩ : ByteArray)) ⟨sep.toArray⟩ w hcell hb (by simp only [List.length_map]; omega) (by simpa [hn] using h1) (by rw [hmap]; exact hlen)
    rw [hmap, List.length_map, hn] at h5
    refine h5.mono ?_
    rintro e w' ⟨rfl, hB⟩
    exact ⟨_, rfl, ⟨hB.os, hB.tape, hB.output, hB.size, hB.block⟩, _, rfl, .raw _⟩
end PW
end Go.Proofs.YtkaalpdfppbdeaaDoor

/- Package table: line, numbers, for small numbers. -/
namespace Go.Proofs.YtkaalpdfppbdeaaDoor
set_option linter.unusedVariables false
set_option linter.unusedSimpArgs false
namespace PW
open Go.RowKit Reg Mem

def lineL (L : List (List UInt8)) : List UInt8 := Lib.join L [32] ++ [10]
set_option maxRecDepth 10000 in
set_option maxHeartbeats 1000000 in
theorem line_can (u : Bool) (l : List UInt8) (L : List (List UInt8)) (hL : L.length ≤ 1000000) (hn : l.length + (lineL L).length ≤ 1000000000) : CanS Tryd.prog 39 [.ptr 0 0, strsV L] (bst 1 u l) (fun _ σ' => σ' = bst 2 true (l ++ lineL L)) := by
  have hj : (lineL L).length = (Lib.join L [32]).length + 1 := by simp [lineL]
  refine canS_of Tryd.func39 rfl Tryd.ntmps39 rfl ?_
  refine W_rs ?_
  refine WR_a 2 rfl <| WR_c rfl (join_can L [32] hL (by omega)) rfl <| WR_cS rfl rfl (CanS.mono (wstr1 u l ⟨(Lib.join L [32]).toArray⟩ (show l.length + (Lib.join L [32]).toArray.size ≤ 1000000000 by simp; omega)) (fun _ σ' h => ?_))
  subst h
  refine WR_k [0] rfl ?_
  refine W_region ?_
  refine WR_a 1 rfl <| WR_cS rfl rfl (CanS.mono (wbyte2 true (l ++ Lib.join L [32]) 10 (by simp; omega)) (fun _ σ' h => ?_))
  subst h
  refine WR_ren [0, 1, 3] (.nil) (.kept rfl (.cells (RenL.c <| RenL.c <| RenL.nil)) <| .gone <| .kept rfl (.row RenL.pure) <| .nil) rfl rfl (WR_nil ?_)
  refine ⟨_, ResL.of rfl, ?_⟩
  unfold lineL
  rw [← List.append_assoc]
  rfl

def numsT (l : List Int) : List (List UInt8) := l.map fun n => Lib.decDigits n.toNat
theorem strsP_snoc (L : List (List UInt8)) (x : List UInt8) : strsP L ++ [strV x] = strsP (L ++ [x]) := by simp [strsP]
set_option maxRecDepth 10000 in
set_option maxHeartbeats 1000000 in
theorem numbers_small (l : List Int) (hl : l.length ≤ 1000) (hs : ∀ n ∈ l, 0 ≤ n ∧ n < 100) : Can Tryd.prog 41 [intsV l] (· = strsV (numsT l)) := by
  refine can_of Tryd.func41 rfl Tryd.ntmps41 rfl ?_
  refine W_cs (.a 1 rfl <| .k [0] rfl) ?_
  refine W_cs (.a 1 rfl <| .k [0, 3] rfl) ?_
  refine W_adopt 3 9 1 rfl ?_
  refine W_seq ?_
  refine W_cs (.a 3 rfl <| .k [3, 6, 7, 8] rfl) ?_
  refine W_block ?_
  refine W_k [3, 6, 7, 8] rfl ?_
  refine W_loop (fun r s => ∃ i, i ≤ l.length ∧ r = l.length - i ∧ s = ⟨[(3, .own 0), (6, intsV l), (7, num l.length), (8, num i)], [some (.row 9 1 i (strsP (numsT (l.take i))))]⟩) l.length ⟨0, by omega, by omega, rfl⟩ ?_
  rintro r s ⟨i, hi, rfl, rfl⟩
  refine W_cs (.a 1 rfl <| .k [3, 6, 7, 8, 9] rfl) ?_
  refine W_seq ?_
  refine W_cond rfl (fun hc => ?_) (fun hc => ?_)
  · have hlt : i < l.length := by have := of_decide_eq_true hc; omega
    obtain ⟨h0, h1⟩ := hs _ (getD_mem (d := 0) hlt)
    obtain ⟨a, ha⟩ := Int.eq_ofNat_of_zero_le h0
    have hst : numsT (l.take (i + 1)) = numsT (l.take i) ++ [Lib.decDigits a] := by
      unfold numsT
      rw [take_step l i 0 hlt, List.map_append, ha]
      rfl
    refine W_skip ?_
    refine W_seq ?_
    refine W_block ?_
    refine W_cs (.v (y_ix (i) rfl) rfl <| .v (y_ld rfl ((ints_get l i hlt).trans (by rw [ha]))) rfl <| .a 1 rfl <| .k [3, 5, 6, 7, 8] rfl) ?_
    refine W_region ?_
    refine WR_a 2 rfl <| WR_c rfl (itoa_small a (by omega)) rfl <| WR_a 1 rfl <| WR_l (l_append rfl (fok.rk.get rfl) rfl rfl rfl rfl (by unfold maxLen; omega)) rfl <| WR_a 1 rfl ?_
    refine WR_ren [1] (.c 3 <| .c 6 <| .c 7 <| .c 8 <| .nil) (.kept rfl (.rowP rfl (strsP_snoc _ _)) <| .nil) rfl rfl (WR_nil ?_)
    refine W_chain (.v (y_ar rfl) rfl <| .a 1 rfl <| .k [3, 6, 7, 8] rfl) ?_
    refine ⟨l.length - (i + 1), by omega, i + 1, by omega, rfl, ?_⟩
    rw [hst]
    rfl
  · have hie : i = l.length := by have := of_decide_eq_false hc; omega
    subst hie
    refine W_exit ?_
    refine W_cs (.a 2 rfl <| .k [2] rfl) ?_
    refine W_ret ?_
    refine ⟨_, _, ResL.of rfl, Pur.ownL rfl PurL.pure, ?_⟩
    rw [List.take_length]
    unfold strsV
    rw [show (numsT l).length = l.length by simp [numsT]]
end PW
end Go.Proofs.YtkaalpdfppbdeaaDoor

/- Package table: Text of a table with small numbers and without segments. -/
namespace Go.Proofs.YtkaalpdfppbdeaaDoor
set_option linter.unusedVariables false
set_option linter.unusedSimpArgs false
namespace PW
open Go.RowKit Reg Mem

structure Small (x : Tab) : Prop where
  node : 0 ≤ x.node ∧ x.node < 100
  ents : x.ents.length ≤ 90
  ent : ∀ e ∈ x.ents, e.rep = false ∧ e.arcs.length ≤ 90 ∧ ∀ a ∈ e.arcs, 0 ≤ a ∧ a < 100
  down : x.down.length ≤ 90 ∧ ∀ a ∈ x.down, 0 ≤ a ∧ a < 100
def entT (d : Nat) (e : Ent) : List UInt8 := if e.arcs = [] then [] else lineL ([[116, 111], Lib.decDigits d, [111, 118, 101, 114]] ++ numsT e.arcs)
def entsT (l : List Ent) (k : Nat) : List UInt8 := (List.range k).flatMap fun d => entT d (l.getD d ⟨[], false, []⟩)
def downT (l : List Int) : List UInt8 := if l = [] then [] else lineL ([100, 111, 119, 110] :: numsT l)
def textS (x : Tab) : List UInt8 := lineL [[116, 97, 98, 108, 101], Lib.decDigits x.node.toNat] ++ entsT x.ents x.ents.length ++ downT x.down
theorem entsT_step (l : List Ent) (k : Nat) (e : Ent) (h : l[k]? = some e) : entsT l (k + 1) = entsT l k ++ entT k e := by
  unfold entsT
  rw [List.range_succ, List.flatMap_append]
  simp [h]
theorem W_bnorm {P : Program} {M : Nat} {c : Code} {t : Tms} {Q : Exit → St → Prop} {l : List UInt8} (hT : TRen [0, 2] t t) (h : W P M 0 c ⟨t, bst 1 true l⟩ Q) : W P M 0 c ⟨t, bst 2 true l⟩ Q :=
  W_ren [0, 2] hT (.kept rfl (.cells (RenL.cons (Ren.ptr (i := 0) rfl) <| RenL.cons (Ren.own (i := 1) rfl) RenL.nil)) <| .kept rfl (.row RenL.pure) <| .nil) rfl rfl h

set_option maxRecDepth 10000 in
set_option maxHeartbeats 4000000 in
theorem text_small (x : Tab) (hx : Small x) (hlen : ∀ k, k ≤ x.ents.length → (lineL [[116, 97, 98, 108, 101], Lib.decDigits x.node.toNat]).length + (entsT x.ents k).length ≤ 100000000) (hline : ∀ d e, x.ents[d]? = some e → (lineL ([[116, 111], Lib.decDigits d, [111, 118, 101, 114]] ++ numsT e.arcs)).length ≤ 100000000) (hdl : (lineL ([100, 111, 119, 110] :: numsT x.down)).length ≤ 100000000) :
    Can Tryd.prog 16 [tabV x] (· = strV (textS x)) := by
  have hxe := hx.ents
  obtain ⟨nd, hnd⟩ := Int.eq_ofNat_of_zero_le hx.node.1
  have hnd1 : nd < 100 := by have := hx.node.2; omega
  have hl0 := hlen 0 (by omega)
  rw [show x.node.toNat = nd by omega] at hl0
  refine can_of Tryd.func16 rfl Tryd.ntmps16 rfl ?_
  refine W_cs (.a 2 rfl <| .k [1] rfl) ?_
  refine W_rs ?_
  refine WR_a 1 rfl <| WR_k [1, 3] rfl ?_
  refine W_adoptCell 0 1 5 1 rfl rfl ?_
  refine W_sto (σ' := bst 1 false []) rfl ?_
  refine W_rs ?_
  refine WR_a 1 rfl <| WR_v (y_ld rfl ((show some (num x.node) = some (num (nd : Int)) by rw [hnd]))) rfl <| WR_c rfl (itoa_small nd hnd1) rfl <| WR_a 1 rfl <| WR_cS rfl rfl (CanS.mono (line_can false [] [[116, 97, 98, 108, 101], Lib.decDigits nd] (by simp) (by simp only [List.length_nil]; omega)) (fun _ σ' h => ?_))
  subst h
  refine WR_k [1, 3] rfl ?_
  refine W_bnorm (.cons 1 rfl Ren.pure <| .cons 3 rfl (Ren.ptr (i := 0) rfl) <| .nil) ?_
  refine W_seq ?_
  refine W_cs (.a 4 rfl <| .k [1, 3, 15, 16, 17] rfl) ?_
  refine W_block ?_
  refine W_k [1, 3, 15, 16, 17] rfl ?_
  refine W_loop (fun r s => ∃ k, k ≤ x.ents.length ∧ r = x.ents.length - k ∧ s = ⟨[(1, .pin (tabP x) 0), (3, .ptr 0 0), (15, entsV x.ents), (16, num x.ents.length), (17, num k)], bst 1 true (lineL [[116, 97, 98, 108, 101], Lib.decDigits nd] ++ entsT x.ents k)⟩) x.ents.length ⟨0, by omega, by omega, by simp only [entsT, List.range_zero, List.flatMap_nil, List.append_nil, List.nil_append]; rfl⟩ ?_
  rintro r s ⟨k, hk, rfl, rfl⟩
  refine W_cs (.a 1 rfl <| .k [1, 3, 15, 16, 17, 18] rfl) ?_
  refine W_seq ?_
  refine W_cond rfl (fun hc => ?_) (fun hc => ?_)
  · have hlt : k < x.ents.length := by have := of_decide_eq_true hc; omega
    obtain ⟨e, he⟩ : ∃ e, x.ents[k]? = some e := ⟨x.ents[k], by simp [hlt]⟩
    obtain ⟨hrep, hal, has⟩ := hx.ent e (List.mem_of_getElem? he)
    have hst := entsT_step x.ents k e he
    have hlk := hlen k (by omega)
    rw [show x.node.toNat = nd by omega] at hlk
    have hlk2 := hline k e he
    refine W_skip ?_
    refine W_seq ?_
    refine W_block ?_
    refine W_rs ?_
    refine WR_a 1 rfl <| WR_v (y_ix (k * 3) rfl) rfl <| WR_v (y_loadPinAgg rfl (fok.tk.get rfl) rfl (ents_drop x.ents k e he) rfl) rfl <| WR_a 2 rfl <| WR_loud0 (l_store rfl (fok.tk.get rfl) rfl rfl rfl rfl rfl (Nat.le_of_ble_eq_true rfl)) rfl rfl <| WR_k [1, 3, 4, 5, 15, 16, 17] rfl ?_
    refine W_sto (σ' := bst 1 true (lineL [[116, 97, 98, 108, 101], Lib.decDigits nd] ++ entsT x.ents k) ++ [some (.cells 40 (entP e))]) rfl ?_
    refine W_sealPtr 5 2 0 rfl rfl ?_
    refine W_ren [0, 1] (.cons 1 rfl Ren.pure <| .cons 3 rfl (Ren.ptr (i := 0) rfl) <| .cons 4 rfl Ren.pure <| .cons 5 rfl Ren.pure <| .cons 15 rfl Ren.pure <| .cons 16 rfl Ren.pure <| .cons 17 rfl Ren.pure <| .nil) (.kept rfl (.cells (RenL.cons (Ren.ptr (i := 0) rfl) <| RenL.cons (Ren.own (i := 1) rfl) RenL.nil)) <| .kept rfl (.row RenL.pure) <| .nil) rfl rfl ?_
    refine W_seq ?_
    refine W_cs (.a 1 rfl <| .v (y_ld rfl (rfl)) rfl <| .a 2 rfl <| .k [1, 3, 4, 5, 15, 16, 17, 25] rfl) ?_
    refine W_cond rfl (fun hc => ?_) (fun hc => ?_)
    · have harc : e.arcs = [] := List.eq_nil_of_length_eq_zero (by have := of_decide_eq_true hc; omega)
      rw [show entT k e = [] by unfold entT; rw [if_pos harc], List.append_nil] at hst
      refine W_exit ?_
      refine W_chain (.v (y_ar rfl) rfl <| .a 1 rfl <| .k [1, 3, 15, 16, 17] rfl) ?_
      refine ⟨x.ents.length - (k + 1), by omega, k + 1, by omega, rfl, ?_⟩
      rw [hst]
      first
        | rfl
        | (rw [← List.append_assoc]; rfl)
    · have harc : e.arcs ≠ [] := fun h => by have := of_decide_eq_false hc; rw [h] at this; exact this rfl
      rw [show entT k e = lineL ([[116, 111], Lib.decDigits k, [111, 118, 101, 114]] ++ numsT e.arcs) by unfold entT; rw [if_neg harc]] at hst
      have hnl : (numsT e.arcs).length = e.arcs.length := by simp [numsT]
      refine W_skip ?_
      refine W_ordersTo ([(1, .pin (tabP x) 0), (3, .ptr 0 0), (5, .pin (entP e) 0), (6, .own 3), (15, entsV x.ents), (16, num x.ents.length), (17, num k)]) ([some (.cells 68 [.ptr 0 0, .own 1]), some (.row 5 1 (lineL [[116, 97, 98, 108, 101], Lib.decDigits nd] ++ entsT x.ents k).length (bytesP (lineL [[116, 97, 98, 108, 101], Lib.decDigits nd] ++ entsT x.ents k))), none, some (.row 9 1 (3 + (numsT e.arcs).length) (strsP ([[116, 111], Lib.decDigits k, [111, 118, 101, 114]] ++ numsT e.arcs)))]) mixed ?_ ?_
      · refine WA_step 0 [3] (by kernel_rfl) ?_
        refine WAs_cons rfl rfl (WR_v (y_a rfl) rfl (WR_nil ?_)) ?_
        · refine WA_step 1 [3] (by kernel_rfl) ?_
          refine WAs_cons rfl rfl (WR_v (y_c rfl (itoa_small k (by omega))) rfl (WR_nil ?_)) ?_
          · refine WA_step 2 [3] (by kernel_rfl) ?_
            refine WAs_cons rfl rfl (WR_l (l_buildSlice (xs := [_, _, _]) rfl (fok.sl.get rfl) ⟨Nat.le_of_ble_eq_true rfl, Nat.le_of_ble_eq_true rfl⟩ rfl rfl) rfl (WR_nil ?_)) ?_
            · refine WA_step 3 [] (by kernel_rfl) ?_
              refine WAs_cons rfl rfl (WR_v (y_a rfl) rfl (WR_nil ?_)) WAs_nil
              refine WA_step 4 [] (by kernel_rfl) ?_
              refine WAs_cons rfl rfl (WR_v (y_ld rfl (rfl)) rfl (WR_nil ?_)) WAs_nil
              refine WA_step 5 [] (by kernel_rfl) ?_
              refine WAs_cons rfl rfl (WR_v (y_c rfl (numbers_small e.arcs (by omega) has)) rfl (WR_nil ?_)) WAs_nil
              refine WA_step 6 [] (by kernel_rfl) ?_
              refine WAs_cons rfl rfl (WR_l (l_append rfl (fok.rk.get rfl) rfl rfl rfl (by simp [strsP]) ⟨by unfold maxLen; omega, by omega⟩) rfl (WR_nil ?_)) WAs_nil
              refine WA_step 7 [] (by kernel_rfl) ?_
              refine WAs_cons rfl rfl (WR_v (y_a rfl) rfl (WR_nil ?_)) WAs_nil
              exact WA_nil (by kernel_rfl) ⟨rfl, keepT_sub (ks := [1, 3, 5, 6, 15, 16, 17]) rfl⟩
            refine WAs_cons rfl rfl (WR_v (y_a rfl) rfl (WR_nil ?_)) WAs_nil
            refine WA_step 2 [4] (by kernel_rfl) ?_
            refine WAs_cons rfl rfl (WR_l (l_buildSlice (xs := [_, _, _]) rfl (fok.sl.get rfl) ⟨Nat.le_of_ble_eq_true rfl, Nat.le_of_ble_eq_true rfl⟩ rfl rfl) rfl (WR_nil ?_)) ?_
            · refine WA_step 4 [] (by kernel_rfl) ?_
              refine WAs_cons rfl rfl (WR_v (y_ld rfl (rfl)) rfl (WR_nil ?_)) WAs_nil
              refine WA_step 5 [] (by kernel_rfl) ?_
              refine WAs_cons rfl rfl (WR_v (y_c rfl (numbers_small e.arcs (by omega) has)) rfl (WR_nil ?_)) WAs_nil
              refine WA_step 6 [] (by kernel_rfl) ?_
              refine WAs_cons rfl rfl (WR_l (l_append rfl (fok.rk.get rfl) rfl rfl rfl (by simp [strsP]) ⟨by unfold maxLen; omega, by omega⟩) rfl (WR_nil ?_)) WAs_nil
              refine WA_step 7 [] (by kernel_rfl) ?_
              refine WAs_cons rfl rfl (WR_v (y_a rfl) rfl (WR_nil ?_)) WAs_nil
              exact WA_nil (by kernel_rfl) ⟨rfl, keepT_sub (ks := [1, 3, 5, 6, 15, 16, 17]) rfl⟩
            refine WAs_cons rfl rfl (WR_v (y_ld rfl (rfl)) rfl (WR_nil ?_)) WAs_nil
            refine WA_step 2 [5] (by kernel_rfl) ?_
            refine WAs_cons rfl rfl (WR_l (l_buildSlice (xs := [_, _, _]) rfl (fok.sl.get rfl) ⟨Nat.le_of_ble_eq_true rfl, Nat.le_of_ble_eq_true rfl⟩ rfl rfl) rfl (WR_nil ?_)) ?_
            · refine WA_step 5 [] (by kernel_rfl) ?_
              refine WAs_cons rfl rfl (WR_v (y_c rfl (numbers_small e.arcs (by omega) has)) rfl (WR_nil ?_)) WAs_nil
              refine WA_step 6 [] (by kernel_rfl) ?_
              refine WAs_cons rfl rfl (WR_l (l_append rfl (fok.rk.get rfl) rfl rfl rfl (by simp [strsP]) ⟨by unfold maxLen; omega, by omega⟩) rfl (WR_nil ?_)) WAs_nil
              refine WA_step 7 [] (by kernel_rfl) ?_
              refine WAs_cons rfl rfl (WR_v (y_a rfl) rfl (WR_nil ?_)) WAs_nil
              exact WA_nil (by kernel_rfl) ⟨rfl, keepT_sub (ks := [1, 3, 5, 6, 15, 16, 17]) rfl⟩
            refine WAs_cons rfl rfl (WR_v (y_c rfl (numbers_small e.arcs (by omega) has)) rfl (WR_nil ?_)) WAs_nil
            refine WA_step 2 [] (by kernel_rfl) ?_
            refine WAs_cons rfl rfl (WR_l (l_buildSlice (xs := [_, _, _]) rfl (fok.sl.get rfl) ⟨Nat.le_of_ble_eq_true rfl, Nat.le_of_ble_eq_true rfl⟩ rfl rfl) rfl (WR_nil ?_)) WAs_nil
            refine WA_step 6 [] (by kernel_rfl) ?_
            refine WAs_cons rfl rfl (WR_l (l_append rfl (fok.rk.get rfl) rfl rfl rfl (by simp [strsP]) ⟨by unfold maxLen; omega, by omega⟩) rfl (WR_nil ?_)) WAs_nil
            refine WA_step 7 [] (by kernel_rfl) ?_
            refine WAs_cons rfl rfl (WR_v (y_a rfl) rfl (WR_nil ?_)) WAs_nil
            exact WA_nil (by kernel_rfl) ⟨rfl, keepT_sub (ks := [1, 3, 5, 6, 15, 16, 17]) rfl⟩
          refine WAs_cons rfl rfl (WR_v (y_a rfl) rfl (WR_nil ?_)) WAs_nil
          refine WA_step 1 [4] (by kernel_rfl) ?_
          refine WAs_cons rfl rfl (WR_v (y_c rfl (itoa_small k (by omega))) rfl (WR_nil ?_)) ?_
          · refine WA_step 2 [4] (by kernel_rfl) ?_
            refine WAs_cons rfl rfl (WR_l (l_buildSlice (xs := [_, _, _]) rfl (fok.sl.get rfl) ⟨Nat.le_of_ble_eq_true rfl, Nat.le_of_ble_eq_true rfl⟩ rfl rfl) rfl (WR_nil ?_)) ?_
            · refine WA_step 4 [] (by kernel_rfl) ?_
              refine WAs_cons rfl rfl (WR_v (y_ld rfl (rfl)) rfl (WR_nil ?_)) WAs_nil
              refine WA_step 5 [] (by kernel_rfl) ?_
              refine WAs_cons rfl rfl (WR_v (y_c rfl (numbers_small e.arcs (by omega) has)) rfl (WR_nil ?_)) WAs_nil
              refine WA_step 6 [] (by kernel_rfl) ?_
              refine WAs_cons rfl rfl (WR_l (l_append rfl (fok.rk.get rfl) rfl rfl rfl (by simp [strsP]) ⟨by unfold maxLen; omega, by omega⟩) rfl (WR_nil ?_)) WAs_nil
              refine WA_step 7 [] (by kernel_rfl) ?_
              refine WAs_cons rfl rfl (WR_v (y_a rfl) rfl (WR_nil ?_)) WAs_nil
              exact WA_nil (by kernel_rfl) ⟨rfl, keepT_sub (ks := [1, 3, 5, 6, 15, 16, 17]) rfl⟩
            refine WAs_cons rfl rfl (WR_v (y_ld rfl (rfl)) rfl (WR_nil ?_)) WAs_nil
            refine WA_step 2 [5] (by kernel_rfl) ?_
            refine WAs_cons rfl rfl (WR_l (l_buildSlice (xs := [_, _, _]) rfl (fok.sl.get rfl) ⟨Nat.le_of_ble_eq_true rfl, Nat.le_of_ble_eq_true rfl⟩ rfl rfl) rfl (WR_nil ?_)) ?_
            · refine WA_step 5 [] (by kernel_rfl) ?_
              refine WAs_cons rfl rfl (WR_v (y_c rfl (numbers_small e.arcs (by omega) has)) rfl (WR_nil ?_)) WAs_nil
              refine WA_step 6 [] (by kernel_rfl) ?_
              refine WAs_cons rfl rfl (WR_l (l_append rfl (fok.rk.get rfl) rfl rfl rfl (by simp [strsP]) ⟨by unfold maxLen; omega, by omega⟩) rfl (WR_nil ?_)) WAs_nil
              refine WA_step 7 [] (by kernel_rfl) ?_
              refine WAs_cons rfl rfl (WR_v (y_a rfl) rfl (WR_nil ?_)) WAs_nil
              exact WA_nil (by kernel_rfl) ⟨rfl, keepT_sub (ks := [1, 3, 5, 6, 15, 16, 17]) rfl⟩
            refine WAs_cons rfl rfl (WR_v (y_c rfl (numbers_small e.arcs (by omega) has)) rfl (WR_nil ?_)) WAs_nil
            refine WA_step 2 [] (by kernel_rfl) ?_
            refine WAs_cons rfl rfl (WR_l (l_buildSlice (xs := [_, _, _]) rfl (fok.sl.get rfl) ⟨Nat.le_of_ble_eq_true rfl, Nat.le_of_ble_eq_true rfl⟩ rfl rfl) rfl (WR_nil ?_)) WAs_nil
            refine WA_step 6 [] (by kernel_rfl) ?_
            refine WAs_cons rfl rfl (WR_l (l_append rfl (fok.rk.get rfl) rfl rfl rfl (by simp [strsP]) ⟨by unfold maxLen; omega, by omega⟩) rfl (WR_nil ?_)) WAs_nil
            refine WA_step 7 [] (by kernel_rfl) ?_
            refine WAs_cons rfl rfl (WR_v (y_a rfl) rfl (WR_nil ?_)) WAs_nil
            exact WA_nil (by kernel_rfl) ⟨rfl, keepT_sub (ks := [1, 3, 5, 6, 15, 16, 17]) rfl⟩
          refine WAs_cons rfl rfl (WR_v (y_ld rfl (rfl)) rfl (WR_nil ?_)) WAs_nil
          refine WA_step 1 [] (by kernel_rfl) ?_
          refine WAs_cons rfl rfl (WR_v (y_c rfl (itoa_small k (by omega))) rfl (WR_nil ?_)) WAs_nil
          refine WA_step 2 [5] (by kernel_rfl) ?_
          refine WAs_cons rfl rfl (WR_l (l_buildSlice (xs := [_, _, _]) rfl (fok.sl.get rfl) ⟨Nat.le_of_ble_eq_true rfl, Nat.le_of_ble_eq_true rfl⟩ rfl rfl) rfl (WR_nil ?_)) ?_
          · refine WA_step 5 [] (by kernel_rfl) ?_
            refine WAs_cons rfl rfl (WR_v (y_c rfl (numbers_small e.arcs (by omega) has)) rfl (WR_nil ?_)) WAs_nil
            refine WA_step 6 [] (by kernel_rfl) ?_
            refine WAs_cons rfl rfl (WR_l (l_append rfl (fok.rk.get rfl) rfl rfl rfl (by simp [strsP]) ⟨by unfold maxLen; omega, by omega⟩) rfl (WR_nil ?_)) WAs_nil
            refine WA_step 7 [] (by kernel_rfl) ?_
            refine WAs_cons rfl rfl (WR_v (y_a rfl) rfl (WR_nil ?_)) WAs_nil
            exact WA_nil (by kernel_rfl) ⟨rfl, keepT_sub (ks := [1, 3, 5, 6, 15, 16, 17]) rfl⟩
          refine WAs_cons rfl rfl (WR_v (y_c rfl (numbers_small e.arcs (by omega) has)) rfl (WR_nil ?_)) WAs_nil
          refine WA_step 2 [] (by kernel_rfl) ?_
          refine WAs_cons rfl rfl (WR_l (l_buildSlice (xs := [_, _, _]) rfl (fok.sl.get rfl) ⟨Nat.le_of_ble_eq_true rfl, Nat.le_of_ble_eq_true rfl⟩ rfl rfl) rfl (WR_nil ?_)) WAs_nil
          refine WA_step 6 [] (by kernel_rfl) ?_
          refine WAs_cons rfl rfl (WR_l (l_append rfl (fok.rk.get rfl) rfl rfl rfl (by simp [strsP]) ⟨by unfold maxLen; omega, by omega⟩) rfl (WR_nil ?_)) WAs_nil
          refine WA_step 7 [] (by kernel_rfl) ?_
          refine WAs_cons rfl rfl (WR_v (y_a rfl) rfl (WR_nil ?_)) WAs_nil
          exact WA_nil (by kernel_rfl) ⟨rfl, keepT_sub (ks := [1, 3, 5, 6, 15, 16, 17]) rfl⟩
        refine WAs_cons rfl rfl (WR_v (y_a rfl) rfl (WR_nil ?_)) WAs_nil
        refine WA_step 0 [4] (by kernel_rfl) ?_
        refine WAs_cons rfl rfl (WR_v (y_a rfl) rfl (WR_nil ?_)) ?_
        · refine WA_step 1 [4] (by kernel_rfl) ?_
          refine WAs_cons rfl rfl (WR_v (y_c rfl (itoa_small k (by omega))) rfl (WR_nil ?_)) ?_
          · refine WA_step 2 [4] (by kernel_rfl) ?_
            refine WAs_cons rfl rfl (WR_l (l_buildSlice (xs := [_, _, _]) rfl (fok.sl.get rfl) ⟨Nat.le_of_ble_eq_true rfl, Nat.le_of_ble_eq_true rfl⟩ rfl rfl) rfl (WR_nil ?_)) ?_
            · refine WA_step 4 [] (by kernel_rfl) ?_
              refine WAs_cons rfl rfl (WR_v (y_ld rfl (rfl)) rfl (WR_nil ?_)) WAs_nil
              refine WA_step 5 [] (by kernel_rfl) ?_
              refine WAs_cons rfl rfl (WR_v (y_c rfl (numbers_small e.arcs (by omega) has)) rfl (WR_nil ?_)) WAs_nil
              refine WA_step 6 [] (by kernel_rfl) ?_
              refine WAs_cons rfl rfl (WR_l (l_append rfl (fok.rk.get rfl) rfl rfl rfl (by simp [strsP]) ⟨by unfold maxLen; omega, by omega⟩) rfl (WR_nil ?_)) WAs_nil
              refine WA_step 7 [] (by kernel_rfl) ?_
              refine WAs_cons rfl rfl (WR_v (y_a rfl) rfl (WR_nil ?_)) WAs_nil
              exact WA_nil (by kernel_rfl) ⟨rfl, keepT_sub (ks := [1, 3, 5, 6, 15, 16, 17]) rfl⟩
            refine WAs_cons rfl rfl (WR_v (y_ld rfl (rfl)) rfl (WR_nil ?_)) WAs_nil
            refine WA_step 2 [5] (by kernel_rfl) ?_
            refine WAs_cons rfl rfl (WR_l (l_buildSlice (xs := [_, _, _]) rfl (fok.sl.get rfl) ⟨Nat.le_of_ble_eq_true rfl, Nat.le_of_ble_eq_true rfl⟩ rfl rfl) rfl (WR_nil ?_)) ?_
            · refine WA_step 5 [] (by kernel_rfl) ?_
              refine WAs_cons rfl rfl (WR_v (y_c rfl (numbers_small e.arcs (by omega) has)) rfl (WR_nil ?_)) WAs_nil
              refine WA_step 6 [] (by kernel_rfl) ?_
              refine WAs_cons rfl rfl (WR_l (l_append rfl (fok.rk.get rfl) rfl rfl rfl (by simp [strsP]) ⟨by unfold maxLen; omega, by omega⟩) rfl (WR_nil ?_)) WAs_nil
              refine WA_step 7 [] (by kernel_rfl) ?_
              refine WAs_cons rfl rfl (WR_v (y_a rfl) rfl (WR_nil ?_)) WAs_nil
              exact WA_nil (by kernel_rfl) ⟨rfl, keepT_sub (ks := [1, 3, 5, 6, 15, 16, 17]) rfl⟩
            refine WAs_cons rfl rfl (WR_v (y_c rfl (numbers_small e.arcs (by omega) has)) rfl (WR_nil ?_)) WAs_nil
            refine WA_step 2 [] (by kernel_rfl) ?_
            refine WAs_cons rfl rfl (WR_l (l_buildSlice (xs := [_, _, _]) rfl (fok.sl.get rfl) ⟨Nat.le_of_ble_eq_true rfl, Nat.le_of_ble_eq_true rfl⟩ rfl rfl) rfl (WR_nil ?_)) WAs_nil
            refine WA_step 6 [] (by kernel_rfl) ?_
            refine WAs_cons rfl rfl (WR_l (l_append rfl (fok.rk.get rfl) rfl rfl rfl (by simp [strsP]) ⟨by unfold maxLen; omega, by omega⟩) rfl (WR_nil ?_)) WAs_nil
            refine WA_step 7 [] (by kernel_rfl) ?_
            refine WAs_cons rfl rfl (WR_v (y_a rfl) rfl (WR_nil ?_)) WAs_nil
            exact WA_nil (by kernel_rfl) ⟨rfl, keepT_sub (ks := [1, 3, 5, 6, 15, 16, 17]) rfl⟩
          refine WAs_cons rfl rfl (WR_v (y_ld rfl (rfl)) rfl (WR_nil ?_)) WAs_nil
          refine WA_step 1 [] (by kernel_rfl) ?_
          refine WAs_cons rfl rfl (WR_v (y_c rfl (itoa_small k (by omega))) rfl (WR_nil ?_)) WAs_nil
          refine WA_step 2 [5] (by kernel_rfl) ?_
          refine WAs_cons rfl rfl (WR_l (l_buildSlice (xs := [_, _, _]) rfl (fok.sl.get rfl) ⟨Nat.le_of_ble_eq_true rfl, Nat.le_of_ble_eq_true rfl⟩ rfl rfl) rfl (WR_nil ?_)) ?_
          · refine WA_step 5 [] (by kernel_rfl) ?_
            refine WAs_cons rfl rfl (WR_v (y_c rfl (numbers_small e.arcs (by omega) has)) rfl (WR_nil ?_)) WAs_nil
            refine WA_step 6 [] (by kernel_rfl) ?_
            refine WAs_cons rfl rfl (WR_l (l_append rfl (fok.rk.get rfl) rfl rfl rfl (by simp [strsP]) ⟨by unfold maxLen; omega, by omega⟩) rfl (WR_nil ?_)) WAs_nil
            refine WA_step 7 [] (by kernel_rfl) ?_
            refine WAs_cons rfl rfl (WR_v (y_a rfl) rfl (WR_nil ?_)) WAs_nil
            exact WA_nil (by kernel_rfl) ⟨rfl, keepT_sub (ks := [1, 3, 5, 6, 15, 16, 17]) rfl⟩
          refine WAs_cons rfl rfl (WR_v (y_c rfl (numbers_small e.arcs (by omega) has)) rfl (WR_nil ?_)) WAs_nil
          refine WA_step 2 [] (by kernel_rfl) ?_
          refine WAs_cons rfl rfl (WR_l (l_buildSlice (xs := [_, _, _]) rfl (fok.sl.get rfl) ⟨Nat.le_of_ble_eq_true rfl, Nat.le_of_ble_eq_true rfl⟩ rfl rfl) rfl (WR_nil ?_)) WAs_nil
          refine WA_step 6 [] (by kernel_rfl) ?_
          refine WAs_cons rfl rfl (WR_l (l_append rfl (fok.rk.get rfl) rfl rfl rfl (by simp [strsP]) ⟨by unfold maxLen; omega, by omega⟩) rfl (WR_nil ?_)) WAs_nil
          refine WA_step 7 [] (by kernel_rfl) ?_
          refine WAs_cons rfl rfl (WR_v (y_a rfl) rfl (WR_nil ?_)) WAs_nil
          exact WA_nil (by kernel_rfl) ⟨rfl, keepT_sub (ks := [1, 3, 5, 6, 15, 16, 17]) rfl⟩
        refine WAs_cons rfl rfl (WR_v (y_ld rfl (rfl)) rfl (WR_nil ?_)) WAs_nil
        refine WA_step 0 [] (by kernel_rfl) ?_
        refine WAs_cons rfl rfl (WR_v (y_a rfl) rfl (WR_nil ?_)) WAs_nil
        refine WA_step 1 [] (by kernel_rfl) ?_
        refine WAs_cons rfl rfl (WR_v (y_c rfl (itoa_small k (by omega))) rfl (WR_nil ?_)) WAs_nil
        refine WA_step 2 [5] (by kernel_rfl) ?_
        refine WAs_cons rfl rfl (WR_l (l_buildSlice (xs := [_, _, _]) rfl (fok.sl.get rfl) ⟨Nat.le_of_ble_eq_true rfl, Nat.le_of_ble_eq_true rfl⟩ rfl rfl) rfl (WR_nil ?_)) ?_
        · refine WA_step 5 [] (by kernel_rfl) ?_
          refine WAs_cons rfl rfl (WR_v (y_c rfl (numbers_small e.arcs (by omega) has)) rfl (WR_nil ?_)) WAs_nil
          refine WA_step 6 [] (by kernel_rfl) ?_
          refine WAs_cons rfl rfl (WR_l (l_append rfl (fok.rk.get rfl) rfl rfl rfl (by simp [strsP]) ⟨by unfold maxLen; omega, by omega⟩) rfl (WR_nil ?_)) WAs_nil
          refine WA_step 7 [] (by kernel_rfl) ?_
          refine WAs_cons rfl rfl (WR_v (y_a rfl) rfl (WR_nil ?_)) WAs_nil
          exact WA_nil (by kernel_rfl) ⟨rfl, keepT_sub (ks := [1, 3, 5, 6, 15, 16, 17]) rfl⟩
        refine WAs_cons rfl rfl (WR_v (y_c rfl (numbers_small e.arcs (by omega) has)) rfl (WR_nil ?_)) WAs_nil
        refine WA_step 2 [] (by kernel_rfl) ?_
        refine WAs_cons rfl rfl (WR_l (l_buildSlice (xs := [_, _, _]) rfl (fok.sl.get rfl) ⟨Nat.le_of_ble_eq_true rfl, Nat.le_of_ble_eq_true rfl⟩ rfl rfl) rfl (WR_nil ?_)) WAs_nil
        refine WA_step 6 [] (by kernel_rfl) ?_
        refine WAs_cons rfl rfl (WR_l (l_append rfl (fok.rk.get rfl) rfl rfl rfl (by simp [strsP]) ⟨by unfold maxLen; omega, by omega⟩) rfl (WR_nil ?_)) WAs_nil
        refine WA_step 7 [] (by kernel_rfl) ?_
        refine WAs_cons rfl rfl (WR_v (y_a rfl) rfl (WR_nil ?_)) WAs_nil
        exact WA_nil (by kernel_rfl) ⟨rfl, keepT_sub (ks := [1, 3, 5, 6, 15, 16, 17]) rfl⟩
      refine W_seal 6 3 rfl rfl ?_
      rw [show 3 + (numsT e.arcs).length = ([[116, 111], Lib.decDigits k, [111, 118, 101, 114]] ++ numsT e.arcs).length by simp; omega]
      refine W_ren [0, 1] (.cons 1 rfl Ren.pure <| .cons 3 rfl (Ren.ptr (i := 0) rfl) <| .cons 5 rfl Ren.pure <| .cons 6 rfl Ren.pure <| .cons 15 rfl Ren.pure <| .cons 16 rfl Ren.pure <| .cons 17 rfl Ren.pure <| .nil) (.kept rfl (.cells (RenL.cons (Ren.ptr (i := 0) rfl) <| RenL.cons (Ren.own (i := 1) rfl) RenL.nil)) <| .kept rfl (.row RenL.pure) <| .nil) rfl rfl ?_
      refine W_sto (σ' := bst 1 true (lineL [[116, 97, 98, 108, 101], Lib.decDigits nd] ++ entsT x.ents k)) rfl ?_
      refine W_seq ?_
      refine W_cs (.a 1 rfl <| .v (y_ld rfl ((show some (flag e.rep) = some (flag false) by rw [hrep]))) rfl <| .k [1, 3, 5, 6, 15, 16, 17, 34] rfl) ?_
      refine W_cond rfl (fun hc => ?_) (fun hc => ?_)
      · cases hc
      · refine W_skip ?_
        refine W_region ?_
        refine WR_a 1 rfl <| WR_cS rfl rfl (CanS.mono (line_can true (lineL [[116, 97, 98, 108, 101], Lib.decDigits nd] ++ entsT x.ents k) ([[116, 111], Lib.decDigits k, [111, 118, 101, 114]] ++ numsT e.arcs) (by simp [hnl]; omega) (by simp only [List.length_append] at *; omega)) (fun _ σ' h => ?_))
        subst h
        refine WR_k [1, 3, 15, 16, 17] rfl ?_
        refine W_bnorm (.cons 1 rfl Ren.pure <| .cons 3 rfl (Ren.ptr (i := 0) rfl) <| .cons 15 rfl Ren.pure <| .cons 16 rfl Ren.pure <| .cons 17 rfl Ren.pure <| .nil) ?_
        refine W_chain (.v (y_ar rfl) rfl <| .a 1 rfl <| .k [1, 3, 15, 16, 17] rfl) ?_
        refine ⟨x.ents.length - (k + 1), by omega, k + 1, by omega, rfl, ?_⟩
        rw [hst]
        first
          | rfl
          | (rw [← List.append_assoc]; rfl)
  · have hke : k = x.ents.length := by have := of_decide_eq_false hc; omega
    refine W_exit ?_
    refine W_seq ?_
    refine W_cs (.a 1 rfl <| .v (y_ld rfl (rfl)) rfl <| .a 2 rfl <| .k [1, 3, 57] rfl) ?_
    refine W_cond rfl (fun hc => ?_) (fun hc => ?_)
    · have hdn : x.down ≠ [] := fun h => by have := of_decide_eq_true hc; rw [h] at this; simp at this
      have hdt : downT x.down = lineL ([100, 111, 119, 110] :: numsT x.down) := by unfold downT; rw [if_neg hdn]
      have hnl : (numsT x.down).length = x.down.length := by simp [numsT]
      have hd1 := hx.down.1
      have hlk := hlen k (by omega)
      rw [show x.node.toNat = nd by omega] at hlk
      have h1n : 1 + (numsT x.down).length = ([100, 111, 119, 110] :: numsT x.down).length := by simp; omega
      refine W_region ?_
      refine WR_l (l_buildSlice (xs := [_]) rfl (fok.sl.get rfl) ⟨Nat.le_of_ble_eq_true rfl, Nat.le_of_ble_eq_true rfl⟩ rfl rfl) rfl <| WR_a 1 rfl <| WR_v (y_ld rfl (rfl)) rfl <| WR_c rfl (numbers_small x.down (by omega) hx.down.2) rfl <| WR_l (l_append rfl (fok.rk.get rfl) rfl rfl rfl (by simp [strsP]) ⟨by unfold maxLen; omega, by omega⟩) rfl ?_
      (refine WR_seal 62 3 rfl rfl ?_; rw [h1n]; refine WR_ren [0, 1] (.cons 3 rfl (Ren.ptr (i := 0) rfl) <| .cons 62 rfl (Ren.pure (p := strsV ([100, 111, 119, 110] :: numsT x.down))) <| .nil) (.kept rfl (.cells (RenL.cons (Ren.ptr (i := 0) rfl) <| RenL.cons (Ren.own (i := 1) rfl) RenL.nil)) <| .kept rfl (.row RenL.pure) <| .nil) rfl rfl ?_)
      refine WR_cS rfl rfl (CanS.mono (line_can true (lineL [[116, 97, 98, 108, 101], Lib.decDigits nd] ++ entsT x.ents k) ([100, 111, 119, 110] :: numsT x.down) (by simp [hnl]; omega) (by simp only [List.length_append] at *; omega)) (fun _ σ' h => ?_))
      subst h
      refine WR_k [3] rfl ?_
      refine W_bnorm (.cons 3 rfl (Ren.ptr (i := 0) rfl) <| .nil) ?_
      refine W_rs ?_
      refine WR_cS rfl rfl (CanS.mono (bstring true _ (by simp [lineL]; omega)) (fun _ σ' h => ?_))
      subst h
      refine WR_a 1 rfl <| WR_k [2] rfl ?_
      refine W_ret ?_
      refine ⟨_, _, ResL.of rfl, Pur.pure, ?_⟩
      unfold textS
      rw [hdt, show x.node.toNat = nd by omega, ← hke]
      first
        | rfl
        | (rw [List.append_nil]; rfl)
    · have hdn : x.down = [] := List.eq_nil_of_length_eq_zero (by have := of_decide_eq_false hc; omega)
      have hdt : downT x.down = [] := by unfold downT; rw [if_pos hdn]
      refine W_skip ?_
      refine W_rs ?_
      refine WR_cS rfl rfl (CanS.mono (bstring true _ (by simp [lineL]; omega)) (fun _ σ' h => ?_))
      subst h
      refine WR_a 1 rfl <| WR_k [2] rfl ?_
      refine W_ret ?_
      refine ⟨_, _, ResL.of rfl, Pur.pure, ?_⟩
      unfold textS
      rw [hdt, show x.node.toNat = nd by omega, ← hke]
      first
        | rfl
        | (rw [List.append_nil]; rfl)
end PW
end Go.Proofs.YtkaalpdfppbdeaaDoor

/- The example of the laws on tables: a ring of four nodes: its routes and their text. No program in sight. -/
namespace Go.Proofs.YtkaalpdfppbdeaaDoor
set_option linter.unusedVariables false
set_option linter.unusedSimpArgs false
namespace PW
open Net

def ringL (k : Nat) : List Lnk := (List.range k).map fun (i : Nat) => ⟨(i : Int), (((i + 1) % 4 : Nat) : Int), 1, 1, 0, 1, 0⟩
def ringT : Topo := ⟨4, [], ringL 4⟩
def ringD (d : Nat) : List Int := match d with
  | 0 => [0, 1, 2, 1]
  | 1 => [1, 0, 1, 2]
  | 2 => [2, 1, 0, 1]
  | _ => [1, 2, 1, 0]
theorem ring_valid : validB ringT = true := by kernel_rfl
theorem ring_fits : fitsB ringT [] = true := by kernel_rfl
def wayB (T : Topo) (n : Nat) (out : List Int) (a : Nat) : Bool := decide (0 ≤ at' out (arcY T false a)) && (decide (arcY T false a = (n : Int)) || !overN T (arcY T false a).toNat)
def distB (n : Nat) (out : List Int) : Bool :=
  decide (out.length = 4) && decide (at' out (n : Int) = 0) && (List.range 4).all (fun x => decide (0 ≤ at' out (x : Int))) &&
  (List.range 8).all (fun a => !wayB ringT n out a || (decide (0 ≤ at' out (arcX ringT false a)) && decide (at' out (arcX ringT false a) ≤ at' out (arcY ringT false a) + costN ringT a))) &&
  (List.range 4).all (fun x => decide (x = n) || (List.range 8).any fun a => decide (arcX ringT false a = (x : Int)) && wayB ringT n out a && decide (at' out (x : Int) = at' out (arcY ringT false a) + costN ringT a))
theorem way_iff (n : Nat) (out : List Int) (a : Nat) : Net.Way ringT [] n false out a ↔ wayB ringT n out a = true := by
  unfold Net.Way wayB
  have : downN [] a = false := by simp [downN]
  simp [this]
theorem dist_of {n : Nat} {out : List Int} (h : distB n out = true) : IsDist ringT [] n false out := by
  simp only [distB, Bool.and_eq_true, decide_eq_true_eq, List.all_eq_true, List.mem_range, Bool.or_eq_true, Bool.not_eq_true', List.any_eq_true] at h
  obtain ⟨⟨⟨⟨h1, h2⟩, h3⟩, h4⟩, h5⟩ := h
  refine ⟨by rw [h1]; rfl, h2, fun x hx => ?_, fun a ha hw => ?_, fun x hx _ => ?_⟩
  · have := h3 x (by have : ringT.nodes = 4 := rfl; omega); omega
  · rcases h4 a (by have : ringT.links.length = 4 := rfl; omega) with h | h
    · rw [(way_iff n out a).1 hw] at h; cases h
    · exact h
  · rcases h5 x (by have : ringT.nodes = 4 := rfl; omega) with h | ⟨a, ha, ⟨h6, h7⟩, h8⟩
    · exact .inl h
    · exact .inr ⟨a, by have : ringT.links.length = 4 := rfl; omega, h6, (way_iff n out a).2 h7, h8⟩
theorem ring_dist (d : Nat) (hd : d < 4) : distL ringT [] d false = ringD d := by
  refine distL_eq (sound_of ring_valid) (dist_of ?_)
  match d, hd with
  | 0, _ => exact (show distB 0 (ringD 0) = true by kernel_rfl)
  | 1, _ => exact (show distB 1 (ringD 1) = true by kernel_rfl)
  | 2, _ => exact (show distB 2 (ringD 2) = true by kernel_rfl)
  | 3, _ => exact (show distB 3 (ringD 3) = true by kernel_rfl)
def ringN (d : Nat) : List Int := if 0 = d ∨ (ringD d).getD 0 0 < 0 then [] else passL ringT [] (ringD d) ((ringD d).getD 0 0) d (outL ringT ((0 : Nat) : Int))
def ringTab : Tab := ⟨0, [⟨[], false, []⟩, ⟨[0], false, []⟩, ⟨[0, 7], false, []⟩, ⟨[7], false, []⟩], []⟩
theorem ring_next (d : Nat) (hd : d < 4) : nextL ringT [] 0 d = ((ringTab.ents.getD d ⟨[], false, []⟩).arcs) := by
  unfold nextL
  rw [ring_dist d hd]
  match d, hd with
  | 0, _ => exact (show ringN 0 = [] by kernel_rfl)
  | 1, _ => exact (show ringN 1 = [0] by kernel_rfl)
  | 2, _ => exact (show ringN 2 = [0, 7] by kernel_rfl)
  | 3, _ => exact (show ringN 3 = [7] by kernel_rfl)
theorem ring_routes : routesE ringT [] 0 = ringTab := by
  unfold routesE
  rw [if_pos (show chkE ringT [] [0] = 0 by kernel_rfl)]
  unfold routesT
  have h : toL ringT [] 0 4 = ringTab.ents := by
    unfold toL
    simp only [List.range, List.range.loop, List.map_cons, List.map_nil, ring_next 0 (by omega), ring_next 1 (by omega), ring_next 2 (by omega), ring_next 3 (by omega)]
    rfl
  show (⟨((0 : Nat) : Int), toL ringT [] 0 4, downL [] (outL ringT 0)⟩ : Tab) = ringTab
  rw [h]
  have h2 : downL [] (outL ringT 0) = [] := by kernel_rfl
  rw [h2]
  rfl
def ringBytes : List UInt8 := [116, 97, 98, 108, 101, 32, 48, 10, 116, 111, 32, 49, 32, 111, 118, 101, 114, 32, 48, 10, 116, 111, 32, 50, 32, 111, 118, 101, 114, 32, 48, 32, 55, 10, 116, 111, 32, 51, 32, 111, 118, 101, 114, 32, 55, 10]
theorem ring_text : textS ringTab = ringBytes := by kernel_rfl
end PW
end Go.Proofs.YtkaalpdfppbdeaaDoor
