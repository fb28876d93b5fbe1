/-
  The table of the types of the seat's program. No conditions.
-/
import Derived.Test.YtofdhddbfjfkcaaDoorProg
import Derived.KernelRfl
import Derived.Lib.LaidTab
import Derived.Lib.ItoaNum
import Derived.Shelf.Strconv.Itoa3
import Derived.Test.YtofdhddbfjfkcaaDoorPgb
namespace Go.Proofs.Hs
open Go Go.Pg Go.Proofs
def T : TypeId → Option Ty
  | 2 => some { size := 1, bytes := 8, zero := [.v (.int .i64 0)], d := .int .i64 }
  | 3 => some { size := 1, bytes := 8, zero := [.v (.int .i64 0)], d := .int .i64 }
  | 4 => some { size := 1, bytes := 1, zero := [.v (.bool false)], d := .bool }
  | 5 => some { size := 1, bytes := 1, zero := [.v (.int .u8 0)], d := .int .u8 }
  | 9 => some { size := 1, bytes := 16, zero := [.v (.string ByteArray.empty)], d := .str }
  | 22 => some { size := 1, bytes := 24, zero := [.v (.slice none 0 0)], d := .slice 112 }
  | 23 => some { size := 1, bytes := 24, zero := [.v (.slice none 0 0)], d := .slice 98 }
  | 24 => some { size := 1, bytes := 24, zero := [.v (.slice none 0 0)], d := .slice 76 }
  | 26 => some { size := 3, bytes := 72, zero := [.v (.slice none 0 0), .v (.slice none 0 0), .v (.slice none 0 0)], d := .st [(0, 22), (1, 23), (2, 24)] }
  | 27 => some { size := 1, bytes := 24, zero := [.v (.slice none 0 0)], d := .slice 84 }
  | 30 => some { size := 1, bytes := 8, zero := [.v (.int .i64 0)], d := .int .i64 }
  | 34 => some { size := 3, bytes := 24, zero := [.v (.int .i64 0), .v (.int .i64 0), .v (.int .i64 0)], d := .st [(0, 3), (1, 3), (2, 30)] }
  | 38 => some { size := 2, bytes := 16, zero := [.v (.int .i64 0), .v (.int .i64 0)], d := .st [(0, 3), (1, 3)] }
  | 43 => some { size := 1, bytes := 24, zero := [.v (.slice none 0 0)], d := .slice 3 }
  | 47 => some { size := 2, bytes := 32, zero := [.v (.slice none 0 0), .v (.int .i64 0)], d := .st [(0, 43), (1, 30)] }
  | 76 => some { size := 5, bytes := 40, zero := [.v (.int .i64 0), .v (.int .i64 0), .v (.int .i64 0), .v (.int .i64 0), .v (.int .i64 0)], d := .st [(0, 3), (1, 3), (2, 3), (3, 3), (4, 3)] }
  | 77 => some { size := 1, bytes := 24, zero := [.v (.slice none 0 0)], d := .slice 43 }
  | 84 => some { size := 3, bytes := 24, zero := [.v (.int .i64 0), .v (.bool false), .v (.int .i64 0)], d := .st [(0, 3), (1, 4), (2, 3)] }
  | 91 => some { size := 1, bytes := 24, zero := [.v (.slice none 0 0)], d := .slice 38 }
  | 98 => some { size := 2, bytes := 48, zero := [.v (.slice none 0 0), .v (.slice none 0 0)], d := .st [(0, 91), (1, 91)] }
  | 104 => some { size := 6, bytes := 48, zero := [.v (.int .i64 0), .v (.bool false), .v (.int .i64 0), .v (.int .i64 0), .v (.int .i64 0), .v (.int .i64 0)], d := .st [(0, 3), (1, 4), (2, 3), (3, 3), (4, 3), (5, 3)] }
  | 112 => some { size := 2, bytes := 24, zero := [.v (.string ByteArray.empty), .v (.int .i64 0)], d := .st [(0, 9), (1, 3)] }
  | 113 => some { size := 1, bytes := 24, zero := [.v (.slice none 0 0)], d := .slice 104 }
  | 118 => some { size := 1, bytes := 24, zero := [.v (.slice none 0 0)], d := .slice 121 }
  | 121 => some { size := 5, bytes := 40, zero := [.v (.int .i64 0), .v (.int .i64 0), .v (.int .i64 0), .v (.int .i64 0), .v (.int .i64 0)], d := .st [(0, 3), (1, 3), (2, 3), (3, 3), (4, 3)] }
  | 123 => some { size := 1, bytes := 8, zero := [.v (.map none)], d := .map 9 4 }
  | 128 => some { size := 1, bytes := 8, zero := [.v (.map none)], d := .map 9 3 }
  | 132 => some { size := 1, bytes := 8, zero := [.v (.int .u64 0)], d := .int .u64 }
  | 134 => some { size := 1, bytes := 24, zero := [.v (.slice none 0 0)], d := .slice 4 }
  | 142 => some { size := 1, bytes := 8, zero := [.v (.pointer none)], d := .other }
  | 143 => some { size := 1, bytes := 24, zero := [.v (.slice none 0 0)], d := .slice 5 }
  | 145 => some { size := 2, bytes := 32, zero := [.v (.pointer none), .v (.slice none 0 0)], d := .st [(0, 142), (1, 143)] }
  | 152 => some { size := 1, bytes := 24, zero := [.v (.slice none 0 0)], d := .slice 9 }
  | 165 => some { size := 2, bytes := 16, zero := [.v (.int .i64 0), .v (.int .i64 0)], d := .arr 2 3 }
  | _ => none
theorem T2 : TyFact Tryd.prog 2 { size := 1, bytes := 8, zero := [.v (.int .i64 0)], d := .int .i64 } := ⟨by kernel_rfl, by kernel_rfl, by kernel_rfl, by kernel_rfl, by kernel_rfl⟩
theorem T3 : TyFact Tryd.prog 3 { size := 1, bytes := 8, zero := [.v (.int .i64 0)], d := .int .i64 } := ⟨by kernel_rfl, by kernel_rfl, by kernel_rfl, by kernel_rfl, by kernel_rfl⟩
theorem T4 : TyFact Tryd.prog 4 { size := 1, bytes := 1, zero := [.v (.bool false)], d := .bool } := ⟨by kernel_rfl, by kernel_rfl, by kernel_rfl, by kernel_rfl, by kernel_rfl⟩
theorem T5 : TyFact Tryd.prog 5 { size := 1, bytes := 1, zero := [.v (.int .u8 0)], d := .int .u8 } := ⟨by kernel_rfl, by kernel_rfl, by kernel_rfl, by kernel_rfl, by kernel_rfl⟩
theorem T9 : TyFact Tryd.prog 9 { size := 1, bytes := 16, zero := [.v (.string ByteArray.empty)], d := .str } := ⟨by kernel_rfl, by kernel_rfl, by kernel_rfl, by kernel_rfl, by kernel_rfl⟩
theorem T22 : TyFact Tryd.prog 22 { size := 1, bytes := 24, zero := [.v (.slice none 0 0)], d := .slice 112 } := ⟨by kernel_rfl, by kernel_rfl, by kernel_rfl, by kernel_rfl, by kernel_rfl⟩
theorem T23 : TyFact Tryd.prog 23 { size := 1, bytes := 24, zero := [.v (.slice none 0 0)], d := .slice 98 } := ⟨by kernel_rfl, by kernel_rfl, by kernel_rfl, by kernel_rfl, by kernel_rfl⟩
theorem T24 : TyFact Tryd.prog 24 { size := 1, bytes := 24, zero := [.v (.slice none 0 0)], d := .slice 76 } := ⟨by kernel_rfl, by kernel_rfl, by kernel_rfl, by kernel_rfl, by kernel_rfl⟩
theorem T26 : TyFact Tryd.prog 26 { size := 3, bytes := 72, zero := [.v (.slice none 0 0), .v (.slice none 0 0), .v (.slice none 0 0)], d := .st [(0, 22), (1, 23), (2, 24)] } := ⟨by kernel_rfl, by kernel_rfl, by kernel_rfl, by kernel_rfl, by kernel_rfl⟩
theorem T27 : TyFact Tryd.prog 27 { size := 1, bytes := 24, zero := [.v (.slice none 0 0)], d := .slice 84 } := ⟨by kernel_rfl, by kernel_rfl, by kernel_rfl, by kernel_rfl, by kernel_rfl⟩
theorem T30 : TyFact Tryd.prog 30 { size := 1, bytes := 8, zero := [.v (.int .i64 0)], d := .int .i64 } := ⟨by kernel_rfl, by kernel_rfl, by kernel_rfl, by kernel_rfl, by kernel_rfl⟩
theorem T34 : TyFact Tryd.prog 34 { size := 3, bytes := 24, zero := [.v (.int .i64 0), .v (.int .i64 0), .v (.int .i64 0)], d := .st [(0, 3), (1, 3), (2, 30)] } := ⟨by kernel_rfl, by kernel_rfl, by kernel_rfl, by kernel_rfl, by kernel_rfl⟩
theorem T38 : TyFact Tryd.prog 38 { size := 2, bytes := 16, zero := [.v (.int .i64 0), .v (.int .i64 0)], d := .st [(0, 3), (1, 3)] } := ⟨by kernel_rfl, by kernel_rfl, by kernel_rfl, by kernel_rfl, by kernel_rfl⟩
theorem T43 : TyFact Tryd.prog 43 { size := 1, bytes := 24, zero := [.v (.slice none 0 0)], d := .slice 3 } := ⟨by kernel_rfl, by kernel_rfl, by kernel_rfl, by kernel_rfl, by kernel_rfl⟩
theorem T47 : TyFact Tryd.prog 47 { size := 2, bytes := 32, zero := [.v (.slice none 0 0), .v (.int .i64 0)], d := .st [(0, 43), (1, 30)] } := ⟨by kernel_rfl, by kernel_rfl, by kernel_rfl, by kernel_rfl, by kernel_rfl⟩
theorem T76 : TyFact Tryd.prog 76 { size := 5, bytes := 40, zero := [.v (.int .i64 0), .v (.int .i64 0), .v (.int .i64 0), .v (.int .i64 0), .v (.int .i64 0)], d := .st [(0, 3), (1, 3), (2, 3), (3, 3), (4, 3)] } := ⟨by kernel_rfl, by kernel_rfl, by kernel_rfl, by kernel_rfl, by kernel_rfl⟩
theorem T77 : TyFact Tryd.prog 77 { size := 1, bytes := 24, zero := [.v (.slice none 0 0)], d := .slice 43 } := ⟨by kernel_rfl, by kernel_rfl, by kernel_rfl, by kernel_rfl, by kernel_rfl⟩
theorem T84 : TyFact Tryd.prog 84 { size := 3, bytes := 24, zero := [.v (.int .i64 0), .v (.bool false), .v (.int .i64 0)], d := .st [(0, 3), (1, 4), (2, 3)] } := ⟨by kernel_rfl, by kernel_rfl, by kernel_rfl, by kernel_rfl, by kernel_rfl⟩
theorem T91 : TyFact Tryd.prog 91 { size := 1, bytes := 24, zero := [.v (.slice none 0 0)], d := .slice 38 } := ⟨by kernel_rfl, by kernel_rfl, by kernel_rfl, by kernel_rfl, by kernel_rfl⟩
theorem T98 : TyFact Tryd.prog 98 { size := 2, bytes := 48, zero := [.v (.slice none 0 0), .v (.slice none 0 0)], d := .st [(0, 91), (1, 91)] } := ⟨by kernel_rfl, by kernel_rfl, by kernel_rfl, by kernel_rfl, by kernel_rfl⟩
theorem T104 : TyFact Tryd.prog 104 { size := 6, bytes := 48, zero := [.v (.int .i64 0), .v (.bool false), .v (.int .i64 0), .v (.int .i64 0), .v (.int .i64 0), .v (.int .i64 0)], d := .st [(0, 3), (1, 4), (2, 3), (3, 3), (4, 3), (5, 3)] } := ⟨by kernel_rfl, by kernel_rfl, by kernel_rfl, by kernel_rfl, by kernel_rfl⟩
theorem T112 : TyFact Tryd.prog 112 { size := 2, bytes := 24, zero := [.v (.string ByteArray.empty), .v (.int .i64 0)], d := .st [(0, 9), (1, 3)] } := ⟨by kernel_rfl, by kernel_rfl, by kernel_rfl, by kernel_rfl, by kernel_rfl⟩
theorem T113 : TyFact Tryd.prog 113 { size := 1, bytes := 24, zero := [.v (.slice none 0 0)], d := .slice 104 } := ⟨by kernel_rfl, by kernel_rfl, by kernel_rfl, by kernel_rfl, by kernel_rfl⟩
theorem T118 : TyFact Tryd.prog 118 { size := 1, bytes := 24, zero := [.v (.slice none 0 0)], d := .slice 121 } := ⟨by kernel_rfl, by kernel_rfl, by kernel_rfl, by kernel_rfl, by kernel_rfl⟩
theorem T121 : TyFact Tryd.prog 121 { size := 5, bytes := 40, zero := [.v (.int .i64 0), .v (.int .i64 0), .v (.int .i64 0), .v (.int .i64 0), .v (.int .i64 0)], d := .st [(0, 3), (1, 3), (2, 3), (3, 3), (4, 3)] } := ⟨by kernel_rfl, by kernel_rfl, by kernel_rfl, by kernel_rfl, by kernel_rfl⟩
theorem T123 : TyFact Tryd.prog 123 { size := 1, bytes := 8, zero := [.v (.map none)], d := .map 9 4 } := ⟨by kernel_rfl, by kernel_rfl, by kernel_rfl, by kernel_rfl, by kernel_rfl⟩
theorem T128 : TyFact Tryd.prog 128 { size := 1, bytes := 8, zero := [.v (.map none)], d := .map 9 3 } := ⟨by kernel_rfl, by kernel_rfl, by kernel_rfl, by kernel_rfl, by kernel_rfl⟩
theorem T132 : TyFact Tryd.prog 132 { size := 1, bytes := 8, zero := [.v (.int .u64 0)], d := .int .u64 } := ⟨by kernel_rfl, by kernel_rfl, by kernel_rfl, by kernel_rfl, by kernel_rfl⟩
theorem T134 : TyFact Tryd.prog 134 { size := 1, bytes := 24, zero := [.v (.slice none 0 0)], d := .slice 4 } := ⟨by kernel_rfl, by kernel_rfl, by kernel_rfl, by kernel_rfl, by kernel_rfl⟩
theorem T142 : TyFact Tryd.prog 142 { size := 1, bytes := 8, zero := [.v (.pointer none)], d := .other } := ⟨by kernel_rfl, by kernel_rfl, by kernel_rfl, by kernel_rfl, by kernel_rfl⟩
theorem T143 : TyFact Tryd.prog 143 { size := 1, bytes := 24, zero := [.v (.slice none 0 0)], d := .slice 5 } := ⟨by kernel_rfl, by kernel_rfl, by kernel_rfl, by kernel_rfl, by kernel_rfl⟩
theorem T145 : TyFact Tryd.prog 145 { size := 2, bytes := 32, zero := [.v (.pointer none), .v (.slice none 0 0)], d := .st [(0, 142), (1, 143)] } := ⟨by kernel_rfl, by kernel_rfl, by kernel_rfl, by kernel_rfl, by kernel_rfl⟩
theorem T152 : TyFact Tryd.prog 152 { size := 1, bytes := 24, zero := [.v (.slice none 0 0)], d := .slice 9 } := ⟨by kernel_rfl, by kernel_rfl, by kernel_rfl, by kernel_rfl, by kernel_rfl⟩
theorem T165 : TyFact Tryd.prog 165 { size := 2, bytes := 16, zero := [.v (.int .i64 0), .v (.int .i64 0)], d := .arr 2 3 } := ⟨by kernel_rfl, by kernel_rfl, by kernel_rfl, by kernel_rfl, by kernel_rfl⟩
theorem T_ok : TyOK Tryd.prog T := by
  intro t ty h
  unfold T at h
  split at h
  · injection h with h; subst h; exact T2
  · injection h with h; subst h; exact T3
  · injection h with h; subst h; exact T4
  · injection h with h; subst h; exact T5
  · injection h with h; subst h; exact T9
  · injection h with h; subst h; exact T22
  · injection h with h; subst h; exact T23
  · injection h with h; subst h; exact T24
  · injection h with h; subst h; exact T26
  · injection h with h; subst h; exact T27
  · injection h with h; subst h; exact T30
  · injection h with h; subst h; exact T34
  · injection h with h; subst h; exact T38
  · injection h with h; subst h; exact T43
  · injection h with h; subst h; exact T47
  · injection h with h; subst h; exact T76
  · injection h with h; subst h; exact T77
  · injection h with h; subst h; exact T84
  · injection h with h; subst h; exact T91
  · injection h with h; subst h; exact T98
  · injection h with h; subst h; exact T104
  · injection h with h; subst h; exact T112
  · injection h with h; subst h; exact T113
  · injection h with h; subst h; exact T118
  · injection h with h; subst h; exact T121
  · injection h with h; subst h; exact T123
  · injection h with h; subst h; exact T128
  · injection h with h; subst h; exact T132
  · injection h with h; subst h; exact T134
  · injection h with h; subst h; exact T142
  · injection h with h; subst h; exact T143
  · injection h with h; subst h; exact T145
  · injection h with h; subst h; exact T152
  · injection h with h; subst h; exact T165
  · cases h
def eqT : TypeId → Bool
  | 38 => true
  | 76 => true
  | 112 => true
  | _ => false
theorem E38 : EqFact Tryd.prog 38 := ⟨by kernel_rfl, by kernel_rfl, by kernel_rfl⟩
theorem E76 : EqFact Tryd.prog 76 := ⟨by kernel_rfl, by kernel_rfl, by kernel_rfl⟩
theorem E112 : EqFact Tryd.prog 112 := ⟨by kernel_rfl, by kernel_rfl, by kernel_rfl⟩
theorem eqT_ok : ∀ t, eqT t = true → EqFact Tryd.prog t := by
  intro t h
  unfold eqT at h
  split at h
  · exact E38
  · exact E76
  · exact E112
  · cases h
end Go.Proofs.Hs

/-
  The house's data, and how they are laid out. No conditions.
-/
namespace Go.Proofs.Hs
open Go Go.Pg Go.Proofs
/-- The one table of the library's that a run reads: it stays. -/
def Tabs (w : World) : Prop := Lib.TabIs Tryd.prog w "internal/strconv.uint64pow10" .u64 Lib.pow10Tab
theorem Tabs.mono {w w' : World} (hb : RowKit.Below w.heap.size w w') (h : Tabs w) : Tabs w' := by
  unfold Tabs Lib.TabIs World.var? at h ⊢
  cases hg : Tryd.prog.globalNamed "internal/strconv.uint64pow10" with
  | none => rw [hg] at h; cases h
  | some g =>
    rw [hg] at h
    simp only [Option.bind_some] at h ⊢
    have hlt : g < w.heap.size := by
      rcases Nat.lt_or_ge g w.heap.size with h' | h'
      · exact h'
      · rw [Array.getElem?_eq_none h'] at h; cases h
    rw [hb.block g hlt]; exact h
noncomputable def cx : Cx := { P := Tryd.prog, T := T, eqT := eqT, E := Tabs }
instance : Cx.Wide cx := ⟨rfl⟩
theorem cx_ok : cx.OK := ⟨T_ok, eqT_ok, fun _ _ hb h => h.mono hb⟩
theorem cx_mixed : cx.P.follows .mixedOrders = true := rfl
abbrev ai (n : Int) : AV := .v (.int .i64 n)
abbrev ab (b : Bool) : AV := .v (.bool b)
abbrev at_ (b : ByteArray) : AV := .v (.string b)

structure Span where
  lo : Int
  hi : Int
  deriving DecidableEq
structure Room where
  name : ByteArray
  floor : Int
structure Door where
  hours : List Span
  shut : List Span
  deriving DecidableEq
structure Way where
  a : Int
  b : Int
  secs : Int
  back : Int
  door : Int
  deriving DecidableEq
structure House where
  rooms : List Room
  doors : List Door
  ways : List Way
structure Step where
  way : Int
  back : Bool
  at' : Int
  deriving DecidableEq

abbrev eSpan (s : Span) : List AV := [ai s.lo, ai s.hi]
abbrev lSpan (l : List Span) : AV := .lst (l.map eSpan)
abbrev eRoom (r : Room) : List AV := [at_ r.name, ai r.floor]
abbrev eDoor (d : Door) : List AV := [lSpan d.hours, lSpan d.shut]
abbrev eWay (w : Way) : List AV := [ai w.a, ai w.b, ai w.secs, ai w.back, ai w.door]
abbrev eHouse (h : House) : List AV := [.lst (h.rooms.map eRoom), .lst (h.doors.map eDoor), .lst (h.ways.map eWay)]
abbrev eStep (s : Step) : List AV := [ai s.way, ab s.back, ai s.at']
abbrev eInt (n : Int) : List AV := [ai n]
abbrev lInt (l : List Int) : AV := .lst (l.map eInt)

theorem wrapN {n : Int} (h : -9223372036854775808 ≤ n ∧ n < 9223372036854775808) : IntKind.wrap .i64 n = n := by
  have e : IntKind.wrap .i64 n = if n % 18446744073709551616 ≥ 9223372036854775808 then n % 18446744073709551616 - 18446744073709551616 else n % 18446744073709551616 := by
    simp [IntKind.wrap, IntKind.signed, IntKind.bits]
  rw [e]; split <;> omega

theorem tdivN {a b : Int} (h : 0 ≤ a) : a.tdiv b = a / b := Int.tdiv_eq_ediv_of_nonneg h
theorem tmodN {a b : Int} (h : 0 ≤ a) : a.tmod b = a % b := Int.tmod_eq_emod_of_nonneg h
theorem maxN {a b : Int} : (if b > a then b else a) = max a b := by rw [Int.max_def]; split <;> split <;> omega
theorem minN {a b : Int} : (if b < a then b else a) = min a b := by rw [Int.min_def]; split <;> split <;> omega
theorem sizeN (s : ByteArray) : s.size = s.data.toList.length := rfl

/-- What a valid door is. -/
structure Door.OK (d : Door) : Prop where
  hours : ∀ s ∈ d.hours, 0 ≤ s.lo ∧ s.lo ≤ s.hi ∧ s.hi ≤ 86399
  shut : ∀ s ∈ d.shut, 0 ≤ s.lo ∧ s.lo ≤ s.hi ∧ s.hi ≤ 1073741823
  nh : d.hours.length ≤ 8
  ns : d.shut.length ≤ 8

theorem drop_cons {α β : Type} {l : List α} {k : Nat} {x : α} {rest : List α} (h : l.drop k = x :: rest) (e : α → β) (d : β) :
    ((k : Int) < (l.length : Int)) ∧ (l.map e).getD k d = e x ∧ l.drop (k + 1) = rest ∧ rest.length + k + 1 = l.length ∧ x ∈ l ∧ (l.map e)[k]? = some (e x) := by
  have hlt : k < l.length := by
    rcases Nat.lt_or_ge k l.length with h' | h'
    · exact h'
    · rw [List.drop_eq_nil_of_le h'] at h; cases h
  have h0 : l[k]? = some x := by
    have := congrArg (fun m => m[0]?) h
    simpa using this
  refine ⟨by omega, ?_, ?_, ?_, List.mem_of_getElem? h0, by rw [List.getElem?_map, h0]; rfl⟩
  · rw [List.getD_eq_getElem?_getD, List.getElem?_map, h0]; rfl
  · have : l.drop (k + 1) = (l.drop k).drop 1 := by simp
    rw [this, h]; rfl
  · have := congrArg List.length h
    simp at this; omega

theorem drop_rev {α β : Type} {l : List α} {k : Nat} {x : α} {rest : List α} (h : l.reverse.drop k = x :: rest) (e : α → β) (d : β) :
    ((rest.length : Int) < (l.length : Int)) ∧ (l.map e).getD rest.length d = e x ∧ l.reverse.drop (k + 1) = rest ∧ rest.length + k + 1 = l.length ∧ x ∈ l := by
  obtain ⟨_, _, h3, h4, h5, h6⟩ := drop_cons h e d
  simp only [List.length_reverse] at h4
  refine ⟨by omega, ?_, h3, h4, by simpa using h5⟩
  have : (l.reverse.map e)[k]? = some (e x) := h6
  rw [List.getD_eq_getElem?_getD]
  have h7 : l.reverse[k]? = l[l.length - 1 - k]? := by rw [List.getElem?_reverse (by omega)]
  rw [List.getElem?_map, h7] at this
  rw [List.getElem?_map, show rest.length = l.length - 1 - k by omega, this]; rfl

theorem drop_nil {α : Type} {l : List α} {k : Nat} (h : l.drop k = []) : ¬ ((k : Int) < (l.length : Int)) := by
  have := List.drop_eq_nil_iff.1 h
  omega
attribute [push_cast] cx T eqT eSpan lSpan eRoom eDoor eWay eHouse eStep eInt lInt wrapN tdivN tmodN maxN minN
end Go.Proofs.Hs

set_option maxHeartbeats 8000000
set_option linter.unusedSimpArgs false
set_option linter.unusedVariables false
set_option maxRecDepth 10000
namespace Go.Proofs.Hs
open Go Go.Pg Go.Proofs

theorem In_ok (n lo hi : Int) : OKv cx 49 [ai n, ai lo, ai hi] (ab (decide (lo ≤ n) && decide (n ≤ hi))) := by
  refine OKat.of_body (rs := [6]) Tryd.func49 rfl (by decide +kernel) rfl (by simp [Tryd.ntmps49]) ?_
  simp only [Tryd.ntmps49]
  repeat' first
    | apply AW.seq | apply AW.region | apply AW.ret | apply AW.block | apply AW.skip | apply AW.exit | apply AW.scope | apply AW.label | apply AWL.nil
    | ((first | (apply W.step cx_ok; decide) | (apply W.gS; rfl; decide) | apply AW.cond); (simp (disch := omega) only [push_cast, simprocAttr] <;> rfl); all_goals try ((with_reducible intro hI); try first | (cases hI; done) | (simp only [INTS] at hI; try first | (exfalso; omega) | (have hT : True := hI; clear hT hI))))
    | ((first | apply W.ret1 | apply W.end1); (iterate 2 (try (simp (disch := omega) only [push_cast, simprocAttr] <;> rfl))))
  all_goals (show _ = _; first | (simp [*]; done) | (simp; omega))

theorem Time_ok (t : Int) : OKv cx 46 [ai t] (ab (decide (0 ≤ t) && decide (t ≤ 1073741823))) := by
  refine OKat.of_body (rs := [2]) Tryd.func46 rfl (by decide +kernel) rfl (by simp [Tryd.ntmps46]) ?_
  simp only [Tryd.ntmps46]
  repeat' first
    | apply AW.seq | apply AW.region | apply AW.ret | apply AW.block | apply AW.skip | apply AW.exit | apply AW.scope | apply AW.label | apply AWL.nil
    | ((first | (apply W.step cx_ok; decide) | apply AW.cond); (simp (disch := omega) only [push_cast, simprocAttr] <;> rfl); all_goals try ((with_reducible intro hI); try first | (cases hI; done) | (simp only [INTS] at hI; try first | (exfalso; omega) | (have hT : True := hI; clear hT hI))))
    | ((apply W.callv cx_ok; decide); (iterate 2 (simp (disch := omega) only [push_cast, simprocAttr] <;> rfl)); (with_reducible first | exact In_ok _ _ _); try first | rfl | (simp (disch := omega) only [push_cast, simprocAttr] <;> rfl))
    | ((first | apply W.ret1 | apply W.end1); (iterate 2 (try (simp (disch := omega) only [push_cast, simprocAttr] <;> rfl))))
  all_goals (show _ = _; simp [*])

theorem time_ok (t : Int) : OKv cx 80 [ai t] (ab (decide (0 ≤ t) && decide (t ≤ 1073741823))) := by
  refine OKat.of_body (rs := [2]) Tryd.func80 rfl (by decide +kernel) rfl (by simp [Tryd.ntmps80]) ?_
  simp only [Tryd.ntmps80]
  repeat' first
    | apply AW.seq | apply AW.region | apply AW.ret | apply AW.block | apply AW.skip | apply AW.exit | apply AW.scope | apply AW.label | apply AWL.nil
    | ((first | (apply W.step cx_ok; decide) | (apply W.gS; rfl; decide) | apply AW.cond); (simp (disch := omega) only [push_cast, simprocAttr] <;> rfl); all_goals try ((with_reducible intro hI); try first | (cases hI; done) | (simp only [INTS] at hI; try first | (exfalso; omega) | (have hT : True := hI; clear hT hI))))
    | ((first | apply W.ret1 | apply W.end1); (iterate 2 (try (simp (disch := omega) only [push_cast, simprocAttr] <;> rfl))))
  all_goals (show _ = _; first | (simp [*]; done) | (simp; omega))

theorem index_ok (n m : Int) : OKv cx 91 [ai n, ai m] (ab (decide (0 ≤ n) && decide (n < m))) := by
  refine OKat.of_body (rs := [4]) Tryd.func91 rfl (by decide +kernel) rfl (by simp [Tryd.ntmps91]) ?_
  simp only [Tryd.ntmps91]
  repeat' first
    | apply AW.seq | apply AW.region | apply AW.ret | apply AW.block | apply AW.skip | apply AW.exit | apply AW.scope | apply AW.label | apply AWL.nil
    | ((first | (apply W.step cx_ok; decide) | (apply W.gS; rfl; decide) | apply AW.cond); (simp (disch := omega) only [push_cast, simprocAttr] <;> rfl); all_goals try ((with_reducible intro hI); try first | (cases hI; done) | (simp only [INTS] at hI; try first | (exfalso; omega) | (have hT : True := hI; clear hT hI))))
    | ((first | apply W.ret1 | apply W.end1); (iterate 2 (try (simp (disch := omega) only [push_cast, simprocAttr] <;> rfl))))
  all_goals (show _ = _; first | (simp [*]; done) | (simp; omega))

theorem Room_ok (h : House) (n : Int) (hr : h.rooms.length ≤ 1048576) : OKv cx 101 [.agg (eHouse h), ai n] (ab (decide (0 ≤ n) && decide (n ≤ (h.rooms.length : Int) - 1))) := by
  refine OKat.of_body (rs := [4]) Tryd.func101 rfl (by decide +kernel) rfl (by simp [Tryd.ntmps101]) ?_
  simp only [Tryd.ntmps101]
  repeat' first
    | apply AW.seq | apply AW.region | apply AW.ret | apply AW.block | apply AW.skip | apply AW.exit | apply AW.scope | apply AW.label | apply AWL.nil
    | ((first | (apply W.step cx_ok; decide) | apply AW.cond); (simp (disch := omega) only [push_cast, simprocAttr] <;> rfl); all_goals try ((with_reducible intro hI); try first | (cases hI; done) | (simp only [INTS] at hI; try first | (exfalso; omega) | (have hT : True := hI; clear hT hI))))
    | ((apply W.callv cx_ok; decide); (iterate 2 (simp (disch := omega) only [push_cast, simprocAttr] <;> rfl)); (with_reducible first | exact In_ok _ _ _); try first | rfl | (simp (disch := omega) only [push_cast, simprocAttr] <;> rfl))
    | ((first | apply W.ret1 | apply W.end1); (iterate 2 (try (simp (disch := omega) only [push_cast, simprocAttr] <;> rfl))))
  all_goals (show _ = _; simp [*])

end Go.Proofs.Hs

namespace Go.Proofs.Hs
open Go Go.Pg Go.Proofs

/-- The span of a list that has a number. -/
def over : List Span → Int → Span × Bool
  | [], _ => (⟨0, 0⟩, false)
  | x :: rest, n => if x.lo ≤ n ∧ n ≤ x.hi then (x, true) else over rest n

theorem over_ok (l : List Span) (n0 : Int) (hl : l.length ≤ 1048576) : OKv cx 116 [lSpan l, ai n0] (.tup [.agg (eSpan (over l n0).1), ab (over l n0).2]) := by
  refine OKat.of_bodyC cx_ok (rs := [.cell 4 38, .tmp 5]) Tryd.func116 rfl (by decide +kernel) rfl (by decide) (by simp [Tryd.ntmps116]) ?_
  simp only [Tryd.ntmps116]
  repeat' first
    | apply AW.seq | apply AW.region | apply AW.ret | apply AW.block | apply AW.skip | apply AW.exit | apply AW.scope | apply AW.label | apply AWL.nil
    | ((first | (apply W.step cx_ok; decide) | apply W.store cx_ok | (apply W.gS; rfl; decide) | apply AW.cond); (simp (disch := omega) only [push_cast, simprocAttr] <;> rfl); all_goals try ((with_reducible intro hI); try first | (cases hI; done) | (simp only [INTS] at hI; try first | (exfalso; omega) | (have hT : True := hI; clear hT hI))))
    | ((first | apply W.retC | apply W.endC'); (iterate 2 (try (simp (disch := omega) only [push_cast, simprocAttr] <;> rfl))))
  refine AW.loop (fun n s => ∃ (k : Nat) (rest : List Span), n = rest.length ∧ (l.drop k = rest) ∧ (over rest n0 = over l n0) ∧ 1 ≤ s.nx ∧ s.tm 1 = ai n0 ∧ s.tm 4 = .ptr 0 0 0 1 ∧ s.tm 8 = lSpan l ∧ s.tm 9 = ai l.length ∧ s.tm 10 = ai k ∧ Pg.rowAt s.H (0) = some ({ k := 2, es := [[ai 0, ai 0]], ty := 38 })) (l.length) ⟨0, l, rfl, rfl, rfl, ?_, ?_, ?_, ?_, ?_, ?_, ?_⟩ ?_
  iterate 7 (first | (simp (disch := omega) only [push_cast, simprocAttr] <;> first | rfl | omega) | omega)
  rintro n s ⟨k, rest, hn, hp0, hp1, hnl, hS⟩
  have hZ : (0 : Nat) ≠ s.nx ∧ s.nx ≠ (0 : Nat) := by omega
  rcases rest with _ | ⟨x, rest⟩
  · have hk := drop_nil hp0
    repeat' first
      | apply AW.seq | apply AW.region | apply AW.ret | apply AW.block | apply AW.skip | apply AW.exit | apply AW.scope | apply AW.label | apply AWL.nil
      | ((first | (apply W.step cx_ok; decide) | apply W.store cx_ok | (apply W.gS; rfl; decide) | apply AW.cond); (simp (disch := omega) only [push_cast, simprocAttr, hS, hZ, hk] <;> rfl); all_goals try ((with_reducible intro hI); try first | (cases hI; done) | (simp only [INTS] at hI; try first | (exfalso; omega) | (have hT : True := hI; clear hT hI))))
      | ((first | apply W.retC | apply W.endC'); (iterate 2 (try (simp (disch := omega) only [push_cast, simprocAttr, hS, hZ, hk] <;> rfl))))
    all_goals (show _ = _; rw [← hp1]; simp [over])
  · obtain ⟨hk, hg, hd', hl', hm, hx⟩ := drop_cons hp0 eSpan []
    repeat' first
      | apply AW.seq | apply AW.region | apply AW.ret | apply AW.block | apply AW.skip | apply AW.exit | apply AW.scope | apply AW.label | apply AWL.nil
      | ((first | (apply W.step cx_ok; decide) | apply W.store cx_ok | (apply W.gS; rfl; decide) | apply AW.cond); (simp (disch := omega) only [push_cast, simprocAttr, hS, hZ, hk, hg] <;> rfl); all_goals try ((with_reducible intro hI); try first | (cases hI; done) | (simp only [INTS] at hI; try first | (exfalso; omega) | (have hT : True := hI; clear hT hI))))
      | ((first | apply W.retC | apply W.endC'); (iterate 2 (try (simp (disch := omega) only [push_cast, simprocAttr, hS, hZ, hk, hg] <;> rfl))))
    all_goals first
      | (show _ = _; rw [← hp1, over, if_pos (by first | omega | (simp_all; done))]; done)
      | (rw [over, if_neg (by first | omega | (simp_all; omega) | (simp_all; done))] at hp1
         (refine ⟨rest.length, ?_, k + 1, rest, rfl, hd', hp1, ?_, ?_, ?_, ?_, ?_, ?_, ?_⟩; ((simp only [List.length_cons] at *; omega)); all_goals first | (simp (disch := omega) only [push_cast, simprocAttr, hS, hZ, hg, hk] <;> first | rfl | omega) | omega))

end Go.Proofs.Hs

namespace Go.Proofs.Hs
open Go Go.Pg Go.Proofs

def firstL (t day : Int) : List Span → Option Int
  | [] => none
  | x :: rest => if max t (day + x.lo) ≤ day + x.hi ∧ max t (day + x.lo) ≤ 1073741823 then some (max t (day + x.lo)) else firstL t day rest
def firstD (t : Int) (hours : List Span) : List Int → Option Int
  | [] => none
  | day :: ds => match firstL t day hours with | some n => some n | none => firstD t hours ds
def first (d : Door) (t : Int) : Option Int := firstD t d.hours [t / 86400 * 86400, (t / 86400 + 1) * 86400]
abbrev eOpt (o : Option Int) : AV := .tup [ai (o.getD 0), ab o.isSome]

theorem first_ok (d : Door) (t : Int) (hd : d.OK) (h0 : 0 ≤ t) (h1 : t ≤ 1073741824) : OKv cx 115 [.agg (eDoor d), ai t] (eOpt (first d t)) := by
  have hlen := hd.nh
  refine OKat.of_body (rs := [4, 5]) Tryd.func115 rfl (by decide +kernel) rfl (by simp [Tryd.ntmps115]) ?_
  simp only [Tryd.ntmps115]
  repeat' first
    | apply AW.seq | apply AW.region | apply AW.ret | apply AW.block | apply AW.skip | apply AW.exit | apply AW.scope | apply AW.label | apply AWL.nil
    | ((first | (apply W.step cx_ok; decide) | apply W.store cx_ok | (apply W.gS; rfl; decide) | apply AW.cond); (simp (disch := omega) only [push_cast, simprocAttr, Int.reduceEq] <;> rfl); all_goals try ((with_reducible intro hI); try first | (cases hI; done) | (simp only [INTS] at hI; try first | (exfalso; omega) | (have hT : True := hI; clear hT hI))))
    | ((first | apply W.ret2 | apply W.end2); (iterate 2 (try (simp (disch := omega) only [push_cast, simprocAttr, Int.reduceEq] <;> rfl))))
  refine AW.loop (fun n s => ∃ (j : Nat) (ds : List Int), n = ds.length ∧ ([t / 86400 * 86400, (t / 86400 + 1) * 86400].drop j = ds) ∧ (firstD t d.hours ds = first d t) ∧ 1 ≤ s.nx ∧ s.tm 1 = ai t ∧ s.tm 2 = .ptr 0 0 0 1 ∧ s.tm 18 = .agg [ai (t / 86400 * 86400), ai ((t / 86400 + 1) * 86400)] ∧ s.tm 19 = ai j ∧ Pg.rowAt s.H (0) = some ({ k := 2, es := [eDoor d], ty := 98 })) (2) ⟨0, _, rfl, rfl, rfl, ?_, ?_, ?_, ?_, ?_, ?_⟩ ?_
  iterate 6 (first | (simp (disch := omega) only [push_cast, simprocAttr, Int.reduceEq] <;> first | rfl | omega) | omega)
  rintro n s ⟨j, ds, hn, hp0, hp1, hnl, hS⟩
  have hZ : (0 : Nat) ≠ s.nx ∧ s.nx ≠ (0 : Nat) := by omega
  rcases ds with _ | ⟨y, ds⟩
  · have hj : ¬ ((j : Int) < 2) := by have := drop_nil hp0; simpa using this
    repeat' first
      | apply AW.seq | apply AW.region | apply AW.ret | apply AW.block | apply AW.skip | apply AW.exit | apply AW.scope | apply AW.label | apply AWL.nil
      | ((first | (apply W.step cx_ok; decide) | apply W.store cx_ok | (apply W.gS; rfl; decide) | apply AW.cond); (simp (disch := omega) only [push_cast, simprocAttr, hS, hZ, hj] <;> rfl); all_goals try ((with_reducible intro hI); try first | (cases hI; done) | (simp only [INTS] at hI; try first | (exfalso; omega) | (have hT : True := hI; clear hT hI))))
      | ((first | apply W.ret2 | apply W.end2); (iterate 2 (try (simp (disch := omega) only [push_cast, simprocAttr, hS, hZ, hj] <;> rfl))))
    all_goals (show _ = _; rw [← hp1]; rfl)
  · obtain ⟨hj', _, hdj, hlj, hmj, hxj⟩ := drop_cons hp0 ai .junk
    have hj : (j : Int) < 2 := by simpa using hj'
    have hj2 : (j : Int) < ((2 : Nat) : Int) := hj
    have hy : 0 ≤ y ∧ y ≤ 1073913600 := by simp at hmj; omega
    simp only [List.map_cons, List.map_nil] at hxj
    repeat' first
      | apply AW.seq | apply AW.region | apply AW.ret | apply AW.block | apply AW.skip | apply AW.exit | apply AW.scope | apply AW.label | apply AWL.nil
      | ((first | (apply W.step cx_ok; decide) | apply W.store cx_ok | (apply W.gS; rfl; decide) | apply AW.cond); (simp (disch := omega) only [push_cast, simprocAttr, hS, hZ, Nat.mul_one, hj, hj2, hxj] <;> rfl); all_goals try ((with_reducible intro hI); try first | (cases hI; done) | (simp only [INTS] at hI; try first | (exfalso; omega) | (have hT : True := hI; clear hT hI))))
      | ((first | apply W.ret2 | apply W.end2); (iterate 2 (try (simp (disch := omega) only [push_cast, simprocAttr, hS, hZ, Nat.mul_one, hj, hj2, hxj] <;> rfl))))
    refine AW.loop (fun n s => ∃ (k : Nat) (rest : List Span), n = rest.length ∧ (d.hours.drop k = rest) ∧ ((match firstL t y rest with | some n => some n | none => firstD t d.hours ds) = first d t) ∧ 1 ≤ s.nx ∧ s.tm 1 = ai t ∧ s.tm 2 = .ptr 0 0 0 1 ∧ s.tm 7 = ai y ∧ s.tm 18 = .agg [ai (t / 86400 * 86400), ai ((t / 86400 + 1) * 86400)] ∧ s.tm 19 = ai j ∧ s.tm 23 = lSpan d.hours ∧ s.tm 24 = ai d.hours.length ∧ s.tm 25 = ai k ∧ Pg.rowAt s.H (0) = some ({ k := 2, es := [eDoor d], ty := 98 })) (d.hours.length) ⟨0, _, rfl, rfl, hp1, ?_, ?_, ?_, ?_, ?_, ?_, ?_, ?_, ?_, ?_⟩ ?_
    iterate 10 (first | (simp (disch := omega) only [push_cast, simprocAttr, hS, hZ, Nat.mul_one, hj, hj2, hxj] <;> first | rfl | omega) | omega)
    rintro n2 s2 ⟨k2, rest2, hn2, hp02, hp12, hnl2, hS2⟩
    have hZ2 : (0 : Nat) ≠ s2.nx ∧ s2.nx ≠ (0 : Nat) := by omega
    rcases rest2 with _ | ⟨x2, rest2⟩
    · have hk2 := drop_nil hp02
      repeat' first
        | apply AW.seq | apply AW.region | apply AW.ret | apply AW.block | apply AW.skip | apply AW.exit | apply AW.scope | apply AW.label | apply AWL.nil
        | ((first | (apply W.step cx_ok; decide) | apply W.store cx_ok | (apply W.gS; rfl; decide) | apply AW.cond); (simp (disch := omega) only [push_cast, simprocAttr, hS2, hZ2, hk2] <;> rfl); all_goals try ((with_reducible intro hI); try first | (cases hI; done) | (simp only [INTS] at hI; try first | (exfalso; omega) | (have hT : True := hI; clear hT hI))))
        | ((first | apply W.ret2 | apply W.end2); (iterate 2 (try (simp (disch := omega) only [push_cast, simprocAttr, hS2, hZ2, hk2] <;> rfl))))
      all_goals
        (have hp1' : firstD t d.hours ds = first d t := hp12
         (refine ⟨ds.length, ?_, j + 1, ds, rfl, hdj, hp1', ?_, ?_, ?_, ?_, ?_, ?_⟩; ((simp only [List.length_cons] at *; omega)); all_goals first | (simp (disch := omega) only [push_cast, simprocAttr, hS2, hZ2] <;> first | rfl | omega) | omega))
    · obtain ⟨hk2, hg2, hd'2, hl'2, hm2, hx2⟩ := drop_cons hp02 eSpan []
      have hb := hd.hours _ hm2
      repeat' first
        | apply AW.seq | apply AW.region | apply AW.ret | apply AW.block | apply AW.skip | apply AW.exit | apply AW.scope | apply AW.label | apply AWL.nil
        | ((first | (apply W.step cx_ok; decide) | apply W.store cx_ok | (apply W.gS; rfl; decide) | apply AW.cond); (simp (disch := omega) only [push_cast, simprocAttr, hS2, hZ2, hk2, hg2] <;> rfl); all_goals try ((with_reducible intro hI); try first | (cases hI; done) | (simp only [INTS] at hI; try first | (exfalso; omega) | (have hT : True := hI; clear hT hI))))
        | ((first | apply W.ret2 | apply W.end2); (iterate 2 (try (simp (disch := omega) only [push_cast, simprocAttr, hS2, hZ2, hk2, hg2] <;> rfl))))
      all_goals first
        | (show _ = _; rw [← hp12, firstL, if_pos (by first | omega | (simp_all; done))]; rfl)
        | (rw [firstL, if_neg (by first | omega | (simp_all; omega) | (simp_all; done))] at hp12
           (refine ⟨rest2.length, ?_, k2 + 1, rest2, rfl, hd'2, hp12, ?_, ?_, ?_, ?_, ?_, ?_, ?_, ?_, ?_, ?_⟩; ((simp only [List.length_cons] at *; omega)); all_goals first | (simp (disch := omega) only [push_cast, simprocAttr, hS2, hZ2, hg2, hk2] <;> first | rfl | omega) | omega))

theorem over_mem : ∀ (l : List Span) (n : Int), (over l n).2 = true → (over l n).1 ∈ l ∧ (over l n).1.lo ≤ n ∧ n ≤ (over l n).1.hi
  | [], n, h => by simp [over] at h
  | x :: l, n, h => by
    unfold over at h ⊢
    split
    · rename_i hc; exact ⟨by simp, hc⟩
    · rename_i hc; rw [if_neg hc] at h; have := over_mem l n h; exact ⟨by simp [this.1], this.2⟩

/-- The least time from one on at which a door is open. -/
def nextL (d : Door) : Nat → Int → Int
  | 0, _ => 1073741824
  | f + 1, t => if (first d t).isSome = true then (if (over d.shut ((first d t).getD 0)).2 = true then nextL d f ((over d.shut ((first d t).getD 0)).1.hi + 1) else (first d t).getD 0) else 1073741824
def next (d : Door) (t : Int) : Int := nextL d 17 t

theorem next_ok (d : Door) (t : Int) (hd : d.OK) (h0 : 0 ≤ t) (h1 : t ≤ 1073741824) : OKv cx 76 [.agg (eDoor d), ai t] (ai (next d t)) := by
  have hlen := hd.ns
  refine OKat.of_body (rs := [4]) Tryd.func76 rfl (by decide +kernel) rfl (by simp [Tryd.ntmps76]) ?_
  simp only [Tryd.ntmps76]
  repeat' first
    | apply AW.seq | apply AW.region | apply AW.ret | apply AW.block | apply AW.skip | apply AW.exit | apply AW.scope | apply AW.label | apply AWL.nil
    | ((first | (apply W.step cx_ok; decide) | apply W.store cx_ok | apply AW.cond); (simp (disch := omega) only [push_cast, simprocAttr] <;> rfl); all_goals try ((with_reducible intro hI); try first | (cases hI; done) | (simp only [INTS] at hI; try first | (exfalso; omega) | (have hT : True := hI; clear hT hI))))
    | ((first | apply W.ret1 | apply W.end1); (iterate 2 (try (simp (disch := omega) only [push_cast, simprocAttr] <;> rfl))))
  refine AW.loop (fun n s => ∃ (f : Nat) (u : Int) (i : Int), n = f ∧ (i + f = 17) ∧ (0 ≤ i ∧ 0 ≤ u ∧ u ≤ 1073741824) ∧ (nextL d f u = next d t) ∧ 1 ≤ s.nx ∧ s.tm 1 = ai u ∧ s.tm 2 = .ptr 0 0 0 1 ∧ s.tm 5 = ai i ∧ Pg.rowAt s.H (0) = some ({ k := 2, es := [eDoor d], ty := 98 })) (17) ⟨17, t, 0, rfl, by omega, by omega, rfl, ?_, ?_, ?_, ?_, ?_⟩ ?_
  iterate 5 (first | (simp (disch := omega) only [push_cast, simprocAttr] <;> first | rfl | omega) | omega)
  rintro n s ⟨f, u, i, hn, hp0, hp1, hp2, hnl, hS⟩
  have hZ : (0 : Nat) ≠ s.nx ∧ s.nx ≠ (0 : Nat) := by omega
  rcases f with _ | f
  · have hi : ¬ (i ≤ 16) := by omega
    repeat' first
      | apply AW.seq | apply AW.region | apply AW.ret | apply AW.block | apply AW.skip | apply AW.exit | apply AW.scope | apply AW.label | apply AWL.nil
      | ((first | (apply W.step cx_ok; decide) | apply W.store cx_ok | apply AW.cond); (simp (disch := omega) only [push_cast, simprocAttr, hS, hZ, hi] <;> rfl); all_goals try ((with_reducible intro hI); try first | (cases hI; done) | (simp only [INTS] at hI; try first | (exfalso; omega) | (have hT : True := hI; clear hT hI))))
      | ((first | apply W.ret1 | apply W.end1); (iterate 2 (try (simp (disch := omega) only [push_cast, simprocAttr, hS, hZ, hi] <;> rfl))))
    all_goals (show _ = _; rw [← hp2]; rfl)
  · have hi : i ≤ 16 := by omega
    have hu : 0 ≤ u ∧ u ≤ 1073741824 := hp1.2
    repeat' first
      | apply AW.seq | apply AW.region | apply AW.ret | apply AW.block | apply AW.skip | apply AW.exit | apply AW.scope | apply AW.label | apply AWL.nil
      | ((first | (apply W.step cx_ok; decide) | apply W.store cx_ok | apply AW.cond); (simp (disch := omega) only [push_cast, simprocAttr, hS, hZ, hi] <;> rfl); all_goals try ((with_reducible intro hI); try first | (cases hI; done) | (simp only [INTS] at hI; try first | (exfalso; omega) | (have hT : True := hI; clear hT hI))))
      | ((apply W.callv cx_ok; decide); (iterate 2 (simp (disch := omega) only [push_cast, simprocAttr, hS, hZ, hi] <;> rfl)); (with_reducible first | exact first_ok _ _ hd hu.1 hu.2 | exact over_ok _ _ (by omega)); try first | rfl | (simp (disch := omega) only [push_cast, simprocAttr, hS, hZ, hi] <;> rfl))
      | ((first | apply W.ret1 | apply W.end1); (iterate 2 (try (simp (disch := omega) only [push_cast, simprocAttr, hS, hZ, hi] <;> rfl))))
    all_goals first
      | (show _ = _; rw [← hp2]; simp [nextL, *]; done)
      | (have ho := over_mem d.shut ((first d u).getD 0) (by assumption)
         have hb := hd.shut _ ho.1
         have hp2' : nextL d f ((over d.shut ((first d u).getD 0)).1.hi + 1) = next d t := by rw [← hp2]; simp [nextL, *]
         (refine ⟨f, ?_, f, _, i + 1, rfl, (by omega), (by omega), hp2', ?_, ?_, ?_, ?_, ?_⟩; (omega); all_goals first | (simp (disch := omega) only [push_cast, simprocAttr, hS, hZ, hi] <;> first | rfl | omega) | omega))

end Go.Proofs.Hs

namespace Go.Proofs.Hs
open Go Go.Pg Go.Proofs

def inS : List Span → Int → Bool
  | [], _ => false
  | x :: rest, n => if x.lo ≤ n ∧ n ≤ x.hi then true else inS rest n

theorem in_ok (l : List Span) (n0 : Int) (hl : l.length ≤ 1099511627776) : OKv cx 122 [lSpan l, ai n0] (ab (inS l n0)) := by
  refine OKat.of_body (rs := [4]) Tryd.func122 rfl (by decide +kernel) rfl (by simp [Tryd.ntmps122]) ?_
  simp only [Tryd.ntmps122]
  repeat' first
    | apply AW.seq | apply AW.region | apply AW.ret | apply AW.block | apply AW.skip | apply AW.exit | apply AW.scope | apply AW.label | apply AWL.nil | apply D.nil
    | refine W.draw cx_mixed (by decide +kernel) ?_
    | ((first | (apply W.step cx_ok; decide) | (apply D.step cx_ok; decide; decide) | apply AW.cond); (simp (disch := omega) only [push_cast, simprocAttr] <;> rfl); all_goals try ((with_reducible intro hI); try first | (cases hI; done) | (simp only [INTS] at hI; try first | (exfalso; omega) | (have hT : True := hI; clear hT hI))))
    | ((first | apply W.ret1 | apply W.end1); (iterate 2 (try (simp (disch := omega) only [push_cast, simprocAttr] <;> rfl))))
  refine AW.loop (fun n s => ∃ (k : Nat) (rest : List Span), n = rest.length ∧ (l.drop k = rest) ∧ (inS rest n0 = inS l n0) ∧ s.tm 0 = lSpan l ∧ s.tm 1 = ai n0 ∧ s.tm 5 = ai k) (l.length) ⟨0, l, rfl, rfl, rfl, ?_, ?_, ?_⟩ ?_
  iterate 3 (first | (simp (disch := omega) only [push_cast, simprocAttr] <;> first | rfl | omega) | omega)
  rintro n s ⟨k, rest, hn, hp0, hp1, hS⟩
  rcases rest with _ | ⟨x, rest⟩
  · have hk := drop_nil hp0
    repeat' first
      | apply AW.seq | apply AW.region | apply AW.ret | apply AW.block | apply AW.skip | apply AW.exit | apply AW.scope | apply AW.label | apply AWL.nil | apply D.nil
      | refine W.draw cx_mixed (by decide +kernel) ?_
      | ((first | (apply W.step cx_ok; decide) | (apply D.step cx_ok; decide; decide) | apply AW.cond); (simp (disch := omega) only [push_cast, simprocAttr, hS, hk] <;> rfl); all_goals try ((with_reducible intro hI); try first | (cases hI; done) | (simp only [INTS] at hI; try first | (exfalso; omega) | (have hT : True := hI; clear hT hI))))
      | ((first | apply W.ret1 | apply W.end1); (iterate 2 (try (simp (disch := omega) only [push_cast, simprocAttr, hS, hk] <;> rfl))))
    all_goals (show _ = _; rw [← hp1]; simp [inS])
  · obtain ⟨hk, hg, hd', hl', hm, hx⟩ := drop_cons hp0 eSpan []
    repeat' first
      | apply AW.seq | apply AW.region | apply AW.ret | apply AW.block | apply AW.skip | apply AW.exit | apply AW.scope | apply AW.label | apply AWL.nil | apply D.nil
      | refine W.draw cx_mixed (by decide +kernel) ?_
      | ((first | (apply W.step cx_ok; decide) | (apply D.step cx_ok; decide; decide) | apply AW.cond); (simp (disch := omega) only [push_cast, simprocAttr, hS, hk, hg] <;> rfl); all_goals try ((with_reducible intro hI); try first | (cases hI; done) | (simp only [INTS] at hI; try first | (exfalso; omega) | (have hT : True := hI; clear hT hI))))
      | ((first | (apply W.callv cx_ok; decide) | (apply D.callv cx_ok; decide; decide)); (iterate 2 (simp (disch := omega) only [push_cast, simprocAttr, hS, hk, hg] <;> rfl)); (with_reducible first | exact In_ok _ _ _); try first | rfl | (simp (disch := omega) only [push_cast, simprocAttr, hS, hk, hg] <;> rfl))
      | ((first | apply W.ret1 | apply W.end1); (iterate 2 (try (simp (disch := omega) only [push_cast, simprocAttr, hS, hk, hg] <;> rfl))))
    all_goals first
      | (show _ = _; rw [← hp1, inS, if_pos (by first | omega | (simp_all; done))]; done)
      | (rw [inS, if_neg (by first | omega | (simp_all; omega) | (simp_all; done))] at hp1
         (refine ⟨rest.length, ?_, k + 1, rest, rfl, hd', hp1, ?_, ?_, ?_⟩; ((simp only [List.length_cons] at *; omega)); all_goals first | (simp (disch := omega) only [push_cast, simprocAttr, hS, hg, hk] <;> first | rfl | omega) | omega))

def openR (d : Door) (t : Int) : Bool := inS d.hours (t.tmod 86400) && !inS d.shut t

theorem openR_ok (d : Door) (t : Int) (h1 : d.hours.length ≤ 1048576) (h2 : d.shut.length ≤ 1048576) : OKv cx 102 [.agg (eDoor d), ai t] (ab (openR d t)) := by
  refine OKat.of_body (rs := [4]) Tryd.func102 rfl (by decide +kernel) rfl (by simp [Tryd.ntmps102]) ?_
  simp only [Tryd.ntmps102]
  repeat' first
    | apply AW.seq | apply AW.region | apply AW.ret | apply AW.block | apply AW.skip | apply AW.exit | apply AW.scope | apply AW.label | apply AWL.nil
    | ((first | (apply W.step cx_ok; decide) | (apply W.gS; rfl; decide) | apply AW.cond); (simp (disch := omega) only [push_cast, simprocAttr, Int.reduceEq, Int.reduceNeg] <;> rfl); all_goals try ((with_reducible intro hI); try first | (cases hI; done) | (simp only [INTS] at hI; try first | (exfalso; omega) | (have hT : True := hI; clear hT hI))))
    | ((apply W.callv cx_ok; decide); (iterate 2 (simp (disch := omega) only [push_cast, simprocAttr, Int.reduceEq, Int.reduceNeg] <;> rfl)); (with_reducible first | exact in_ok _ _ (by omega)); try first | rfl | (simp (disch := omega) only [push_cast, simprocAttr, Int.reduceEq, Int.reduceNeg] <;> rfl))
    | ((first | apply W.ret1 | apply W.end1); (iterate 2 (try (simp (disch := omega) only [push_cast, simprocAttr, Int.reduceEq, Int.reduceNeg] <;> rfl))))
  all_goals (show _ = _; simp_all [openR])

end Go.Proofs.Hs

namespace Go.Proofs.Hs
open Go Go.Pg Go.Proofs

def orderlyL (most : Int) (n : Nat) : List Span → Int → Bool
  | [], _ => decide ((n : Int) ≤ 8)
  | x :: rest, least => if x.lo < least ∨ x.hi < x.lo ∨ most < x.hi then false else orderlyL most n rest (IntKind.wrap .i64 (x.hi + 2))
def orderly (l : List Span) (most : Int) : Bool := orderlyL most l.length l 0

theorem orderly_ok (l : List Span) (most : Int) (hl : l.length ≤ 1099511627776) : OKv cx 90 [lSpan l, ai most] (ab (orderly l most)) := by
  refine OKat.of_body (rs := [4]) Tryd.func90 rfl (by decide +kernel) rfl (by simp [Tryd.ntmps90]) ?_
  simp only [Tryd.ntmps90]
  repeat' first
    | apply AW.seq | apply AW.region | apply AW.ret | apply AW.block | apply AW.skip | apply AW.exit | apply AW.scope | apply AW.label | apply AWL.nil
    | ((first | (apply W.step cx_ok; decide) | apply W.store cx_ok | (apply W.gS; rfl; decide) | apply AW.cond); (simp (disch := omega) only [push_cast, simprocAttr] <;> rfl); all_goals try ((with_reducible intro hI); try first | (cases hI; done) | (simp only [INTS] at hI; try first | (exfalso; omega) | (have hT : True := hI; clear hT hI))))
    | ((first | apply W.ret1 | apply W.end1); (iterate 2 (try (simp (disch := omega) only [push_cast, simprocAttr] <;> rfl))))
  refine AW.loop (fun n s => ∃ (k : Nat) (rest : List Span) (least : Int), n = rest.length ∧ (l.drop k = rest) ∧ (orderlyL most l.length rest least = orderly l most) ∧ s.tm 0 = lSpan l ∧ s.tm 1 = ai most ∧ s.tm 5 = ai least ∧ s.tm 8 = lSpan l ∧ s.tm 9 = ai l.length ∧ s.tm 10 = ai k) (l.length) ⟨0, l, 0, rfl, rfl, rfl, ?_, ?_, ?_, ?_, ?_, ?_⟩ ?_
  iterate 6 (first | (simp (disch := omega) only [push_cast, simprocAttr] <;> first | rfl | omega) | omega)
  rintro n s ⟨k, rest, least, hn, hp0, hp1, hS⟩
  rcases rest with _ | ⟨x, rest⟩
  · have hk := drop_nil hp0
    repeat' first
      | apply AW.seq | apply AW.region | apply AW.ret | apply AW.block | apply AW.skip | apply AW.exit | apply AW.scope | apply AW.label | apply AWL.nil
      | ((first | (apply W.step cx_ok; decide) | apply W.store cx_ok | (apply W.gS; rfl; decide) | apply AW.cond); (simp (disch := omega) only [push_cast, simprocAttr, hS, hk] <;> rfl); all_goals try ((with_reducible intro hI); try first | (cases hI; done) | (simp only [INTS] at hI; try first | (exfalso; omega) | (have hT : True := hI; clear hT hI))))
      | ((first | apply W.ret1 | apply W.end1); (iterate 2 (try (simp (disch := omega) only [push_cast, simprocAttr, hS, hk] <;> rfl))))
    all_goals (show _ = _; rw [← hp1]; simp [orderlyL])
  · obtain ⟨hk, hg, hd', hl', hm, hx⟩ := drop_cons hp0 eSpan []
    repeat' first
      | apply AW.seq | apply AW.region | apply AW.ret | apply AW.block | apply AW.skip | apply AW.exit | apply AW.scope | apply AW.label | apply AWL.nil
      | ((first | (apply W.step cx_ok; decide) | apply W.store cx_ok | (apply W.gS; rfl; decide) | apply AW.cond); (simp (disch := omega) only [push_cast, simprocAttr, hS, hk, hg] <;> rfl); all_goals try ((with_reducible intro hI); try first | (cases hI; done) | (simp only [INTS] at hI; try first | (exfalso; omega) | (have hT : True := hI; clear hT hI))))
      | ((first | apply W.ret1 | apply W.end1); (iterate 2 (try (simp (disch := omega) only [push_cast, simprocAttr, hS, hk, hg] <;> rfl))))
    all_goals first
      | (show _ = _; rw [← hp1]; simp [orderlyL, *]; done)
      | (have hq : ¬ (x.lo < least ∨ x.hi < x.lo ∨ most < x.hi) := by omega
         rw [orderlyL, if_neg hq] at hp1
         (refine ⟨rest.length, ?_, k + 1, rest, _, rfl, hd', hp1, ?_, ?_, ?_, ?_, ?_, ?_⟩; ((simp only [List.length_cons] at *; omega)); all_goals first | (simp (disch := omega) only [push_cast, simprocAttr, hS, hg, hk] <;> first | rfl | omega) | omega))

end Go.Proofs.Hs

namespace Go.Proofs.Hs
open Go Go.Pg Go.Proofs

/-- Is the byte a letter or a digit? -/
def goodC (b : UInt8) : Bool := (decide (97 ≤ (b.toNat : Int)) && decide ((b.toNat : Int) ≤ 122)) || (decide (48 ≤ (b.toNat : Int)) && decide ((b.toNat : Int) ≤ 57))
def namedL (n : Nat) : List UInt8 → Bool
  | [] => decide (1 ≤ (n : Int)) && decide ((n : Int) ≤ 16)
  | b :: rest => if goodC b = true then namedL n rest else false
def named (s : ByteArray) : Bool := namedL s.size s.data.toList

theorem drop_bytes {s : ByteArray} {k : Nat} {x : UInt8} {rest : List UInt8} (h : s.data.toList.drop k = x :: rest) : ((k : Int) < (s.size : Int)) ∧ s.data.toList.getD k 0 = x ∧ s.data.toList.drop (k + 1) = rest ∧ rest.length + k + 1 = s.size := by
  have := drop_cons h id 0
  simp only [List.map_id] at this
  exact ⟨this.1, this.2.1, this.2.2.1, this.2.2.2.1⟩
theorem drop_bytes_nil {s : ByteArray} {k : Nat} (h : s.data.toList.drop k = []) : ¬ ((k : Int) < (s.size : Int)) := drop_nil h

theorem named_ok (s0 : ByteArray) (hs : s0.size ≤ 9223372036854775807) : OKv cx 89 [.v (.string s0)] (ab (named s0)) := by
  refine OKat.of_body (rs := [2]) Tryd.func89 rfl (by decide +kernel) rfl (by simp [Tryd.ntmps89]) ?_
  simp only [Tryd.ntmps89]
  repeat' first
    | apply AW.seq | apply AW.region | apply AW.ret | apply AW.block | apply AW.skip | apply AW.exit | apply AW.scope | apply AW.label | apply AWL.nil
    | ((first | (apply W.step cx_ok; decide) | (apply W.gS; rfl; decide) | apply AW.cond); (simp (disch := omega) only [push_cast, simprocAttr] <;> rfl); all_goals try ((with_reducible intro hI); try first | (cases hI; done) | (simp only [INTS] at hI; try first | (exfalso; omega) | (have hT : True := hI; clear hT hI))))
    | ((apply W.gU; rfl; decide); (simp (disch := omega) only [push_cast, simprocAttr] <;> rfl))
    | ((first | apply W.ret1 | apply W.end1); (iterate 2 (try (simp (disch := omega) only [push_cast, simprocAttr] <;> rfl))))
  refine AW.loop (fun n s => ∃ (k : Nat) (rest : List UInt8), n = rest.length ∧ (s0.data.toList.drop k = rest) ∧ (namedL s0.size rest = named s0) ∧ s.tm 0 = .v (.string s0) ∧ s.tm 4 = .v (.string s0) ∧ s.tm 5 = ai (s0.size : Nat) ∧ s.tm 6 = ai k) (s0.data.toList.length) ⟨0, _, rfl, rfl, rfl, ?_, ?_, ?_, ?_⟩ ?_
  iterate 4 (first | (simp (disch := omega) only [push_cast, simprocAttr] <;> first | rfl | omega) | omega)
  rintro n s ⟨k, rest, hn, hp0, hp1, hS⟩
  rcases rest with _ | ⟨x, rest⟩
  · have hk := drop_bytes_nil hp0
    repeat' first
      | apply AW.seq | apply AW.region | apply AW.ret | apply AW.block | apply AW.skip | apply AW.exit | apply AW.scope | apply AW.label | apply AWL.nil
      | ((first | (apply W.step cx_ok; decide) | (apply W.gS; rfl; decide) | apply AW.cond); (simp (disch := omega) only [push_cast, simprocAttr, hS, hk] <;> rfl); all_goals try ((with_reducible intro hI); try first | (cases hI; done) | (simp only [INTS] at hI; try first | (exfalso; omega) | (have hT : True := hI; clear hT hI))))
      | ((apply W.gU; rfl; decide); (simp (disch := omega) only [push_cast, simprocAttr, hS, hk] <;> rfl))
      | ((first | apply W.ret1 | apply W.end1); (iterate 2 (try (simp (disch := omega) only [push_cast, simprocAttr, hS, hk] <;> rfl))))
    all_goals (show _ = _; rw [← hp1]; simp only [namedL]; first | (simp [*]; done) | (simp; omega))
  · obtain ⟨hk, hg, hd', hl'⟩ := drop_bytes hp0
    repeat' first
      | apply AW.seq | apply AW.region | apply AW.ret | apply AW.block | apply AW.skip | apply AW.exit | apply AW.scope | apply AW.label | apply AWL.nil
      | ((first | (apply W.step cx_ok; decide) | (apply W.gS; rfl; decide) | apply AW.cond); (simp (disch := omega) only [push_cast, simprocAttr, hS, hk, hg] <;> rfl); all_goals try ((with_reducible intro hI); try first | (cases hI; done) | (simp only [INTS] at hI; try first | (exfalso; omega) | (have hT : True := hI; clear hT hI))))
      | ((apply W.gU; rfl; decide); (simp (disch := omega) only [push_cast, simprocAttr, hS, hk, hg] <;> rfl))
      | ((first | apply W.ret1 | apply W.end1); (iterate 2 (try (simp (disch := omega) only [push_cast, simprocAttr, hS, hk, hg] <;> rfl))))
    all_goals first
      | (have hq : goodC x = true := by
           simp only [goodC, Bool.or_eq_true, Bool.and_eq_true, decide_eq_true_eq]; omega
         rw [namedL, if_pos hq] at hp1
         (refine ⟨rest.length, ?_, k + 1, rest, rfl, hd', hp1, ?_, ?_, ?_, ?_⟩; ((simp only [List.length_cons] at *; omega)); all_goals first | (simp (disch := omega) only [push_cast, simprocAttr, hS, hg, hk] <;> first | rfl | omega) | omega))
      | (have hq : ¬ goodC x = true := by
           simp only [goodC, Bool.or_eq_true, Bool.and_eq_true, decide_eq_true_eq]; omega
         show _ = _
         rw [← hp1, namedL, if_neg hq]; done)

end Go.Proofs.Hs

namespace Go.Proofs.Hs
open Go Go.Pg Go.Proofs

def Name (s : ByteArray) : Bool := (decide (1 ≤ (s.size : Int)) && decide ((s.size : Int) ≤ 16)) && s.data.toList.all goodC

theorem Name_ok (s0 : ByteArray) : OKv cx 92 [.v (.string s0)] (ab (Name s0)) := by
  refine OKat.of_body (rs := [2]) Tryd.func92 rfl (by decide +kernel) rfl (by simp [Tryd.ntmps92]) ?_
  simp only [Tryd.ntmps92]
  by_cases hA : (s0.size : Int) < 1
  · simp only [Name]
    repeat' first
      | apply AW.seq | apply AW.region | apply AW.ret | apply AW.block | apply AW.skip | apply AW.exit | apply AW.scope | apply AW.label | apply AWL.nil
      | ((first | (apply W.step cx_ok; decide) | (apply W.gS; rfl; decide) | apply AW.cond); (simp (disch := omega) only [push_cast, simprocAttr, hA] <;> rfl); all_goals try ((with_reducible intro hI); try first | (cases hI; done) | (simp only [INTS] at hI; try first | (exfalso; omega) | (have hT : True := hI; clear hT hI))))
      | ((first | apply W.ret1 | apply W.end1); (iterate 2 (try (simp (disch := omega) only [push_cast, simprocAttr, hA] <;> rfl))))
    all_goals (show _ = _; simp; omega)
  by_cases hB : 16 < (s0.size : Int)
  · simp only [Name]
    repeat' first
      | apply AW.seq | apply AW.region | apply AW.ret | apply AW.block | apply AW.skip | apply AW.exit | apply AW.scope | apply AW.label | apply AWL.nil
      | ((first | (apply W.step cx_ok; decide) | (apply W.gS; rfl; decide) | apply AW.cond); (simp (disch := omega) only [push_cast, simprocAttr, hA, hB] <;> rfl); all_goals try ((with_reducible intro hI); try first | (cases hI; done) | (simp only [INTS] at hI; try first | (exfalso; omega) | (have hT : True := hI; clear hT hI))))
      | ((first | apply W.ret1 | apply W.end1); (iterate 2 (try (simp (disch := omega) only [push_cast, simprocAttr, hA, hB] <;> rfl))))
    all_goals (show _ = _; simp; omega)
  repeat' first
    | apply AW.seq | apply AW.region | apply AW.ret | apply AW.block | apply AW.skip | apply AW.exit | apply AW.scope | apply AW.label | apply AWL.nil
    | ((first | (apply W.step cx_ok; decide) | (apply W.gS; rfl; decide) | apply AW.cond); (simp (disch := omega) only [push_cast, simprocAttr, hA, hB] <;> rfl); all_goals try ((with_reducible intro hI); try first | (cases hI; done) | (simp only [INTS] at hI; try first | (exfalso; omega) | (have hT : True := hI; clear hT hI))))
    | ((first | apply W.ret1 | apply W.end1); (iterate 2 (try (simp (disch := omega) only [push_cast, simprocAttr, hA, hB] <;> rfl))))
  refine AW.loop (fun n s => ∃ (k : Nat) (rest : List UInt8), n = rest.length ∧ (s0.data.toList.drop k = rest) ∧ (rest.all goodC = s0.data.toList.all goodC) ∧ s.tm 0 = .v (.string s0) ∧ s.tm 3 = ai k) (s0.data.toList.length) ⟨0, _, rfl, rfl, rfl, ?_, ?_⟩ ?_
  iterate 2 (first | (simp (disch := omega) only [push_cast, simprocAttr] <;> first | rfl | omega) | omega)
  rintro n s ⟨k, rest, hn, hp0, hp1, hS⟩
  rcases rest with _ | ⟨x, rest⟩
  · have hk := drop_bytes_nil hp0
    repeat' first
      | apply AW.seq | apply AW.region | apply AW.ret | apply AW.block | apply AW.skip | apply AW.exit | apply AW.scope | apply AW.label | apply AWL.nil
      | ((first | (apply W.step cx_ok; decide) | (apply W.gS; rfl; decide) | apply AW.cond); (simp (disch := omega) only [push_cast, simprocAttr, hS, hk] <;> rfl); all_goals try ((with_reducible intro hI); try first | (cases hI; done) | (simp only [INTS] at hI; try first | (exfalso; omega) | (have hT : True := hI; clear hT hI))))
      | ((first | apply W.ret1 | apply W.end1); (iterate 2 (try (simp (disch := omega) only [push_cast, simprocAttr, hS, hk] <;> rfl))))
    all_goals (show _ = _; simp only [Name, ← hp1]; simp; omega)
  · obtain ⟨hk, hg, hd', hl'⟩ := drop_bytes hp0
    repeat' first
      | apply AW.seq | apply AW.region | apply AW.ret | apply AW.block | apply AW.skip | apply AW.exit | apply AW.scope | apply AW.label | apply AWL.nil
      | ((first | (apply W.step cx_ok; decide) | (apply W.gS; rfl; decide) | apply AW.cond); (simp (disch := omega) only [push_cast, simprocAttr, hS, hk, hg] <;> rfl); all_goals try ((with_reducible intro hI); try first | (cases hI; done) | (simp only [INTS] at hI; try first | (exfalso; omega) | (have hT : True := hI; clear hT hI))))
      | ((first | apply W.ret1 | apply W.end1); (iterate 2 (try (simp (disch := omega) only [push_cast, simprocAttr, hS, hk, hg] <;> rfl))))
    all_goals first
      | (have hq : goodC x = true := by
           simp only [goodC, Bool.or_eq_true, Bool.and_eq_true, decide_eq_true_eq]; omega
         rw [List.all_cons, hq, Bool.true_and] at hp1
         (refine ⟨rest.length, ?_, k + 1, rest, rfl, hd', hp1, ?_, ?_⟩; ((simp only [List.length_cons] at *; omega)); all_goals first | (simp (disch := omega) only [push_cast, simprocAttr, hS, hg, hk] <;> first | rfl | omega) | omega))
      | (have hq : goodC x = false := by
           simp only [goodC, Bool.or_eq_false_iff, Bool.and_eq_false_iff, decide_eq_false_iff_not]; omega
         show _ = _
         rw [List.all_cons, hq, Bool.false_and] at hp1
         simp only [Name, ← hp1, Bool.and_false]; done)

end Go.Proofs.Hs

namespace Go.Proofs.Hs
open Go Go.Pg Go.Proofs

def finalL (t day : Int) : List Span → Option Int
  | [] => none
  | x :: rest => if 0 ≤ day then (if day + x.lo ≤ min t (day + x.hi) then some (min t (day + x.hi)) else finalL t day rest) else none
def finalD (t : Int) (hours : List Span) : List Int → Option Int
  | [] => none
  | day :: ds => match finalL t day hours.reverse with | some n => some n | none => finalD t hours ds
def final (d : Door) (t : Int) : Option Int := finalD t d.hours [t / 86400 * 86400, (t / 86400 - 1) * 86400]

theorem final_ok (d : Door) (t : Int) (hd : d.OK) (h0 : 0 ≤ t) (h1 : t ≤ 1073741824) : OKv cx 123 [.agg (eDoor d), ai t] (eOpt (final d t)) := by
  have hlen := hd.nh
  refine OKat.of_body (rs := [4, 5]) Tryd.func123 rfl (by decide +kernel) rfl (by simp [Tryd.ntmps123]) ?_
  simp only [Tryd.ntmps123]
  repeat' first
    | apply AW.seq | apply AW.region | apply AW.ret | apply AW.block | apply AW.skip | apply AW.exit | apply AW.scope | apply AW.label | apply AWL.nil
    | ((first | (apply W.step cx_ok; decide) | apply W.store cx_ok | (apply W.gS; rfl; decide) | apply AW.cond); (simp (disch := omega) only [push_cast, simprocAttr, Int.reduceEq] <;> rfl); all_goals try ((with_reducible intro hI); try first | (cases hI; done) | (simp only [INTS] at hI; try first | (exfalso; omega) | (have hT : True := hI; clear hT hI))))
    | ((first | apply W.ret2 | apply W.end2); (iterate 2 (try (simp (disch := omega) only [push_cast, simprocAttr, Int.reduceEq] <;> rfl))))
  refine AW.loop (fun n s => ∃ (j : Nat) (ds : List Int), n = ds.length ∧ ([t / 86400 * 86400, (t / 86400 - 1) * 86400].drop j = ds) ∧ (finalD t d.hours ds = final d t) ∧ 1 ≤ s.nx ∧ s.tm 1 = ai t ∧ s.tm 2 = .ptr 0 0 0 1 ∧ s.tm 18 = .agg [ai (t / 86400 * 86400), ai ((t / 86400 - 1) * 86400)] ∧ s.tm 19 = ai j ∧ Pg.rowAt s.H (0) = some ({ k := 2, es := [eDoor d], ty := 98 })) (2) ⟨0, _, rfl, rfl, rfl, ?_, ?_, ?_, ?_, ?_, ?_⟩ ?_
  iterate 6 (first | (simp (disch := omega) only [push_cast, simprocAttr, Int.reduceEq] <;> first | rfl | omega) | omega)
  rintro n s ⟨j, ds, hn, hp0, hp1, hnl, hS⟩
  have hZ : (0 : Nat) ≠ s.nx ∧ s.nx ≠ (0 : Nat) := by omega
  rcases ds with _ | ⟨y, ds⟩
  · have hj : ¬ ((j : Int) < 2) := by have := drop_nil hp0; simpa using this
    repeat' first
      | apply AW.seq | apply AW.region | apply AW.ret | apply AW.block | apply AW.skip | apply AW.exit | apply AW.scope | apply AW.label | apply AWL.nil
      | ((first | (apply W.step cx_ok; decide) | apply W.store cx_ok | (apply W.gS; rfl; decide) | apply AW.cond); (simp (disch := omega) only [push_cast, simprocAttr, hS, hZ, hj] <;> rfl); all_goals try ((with_reducible intro hI); try first | (cases hI; done) | (simp only [INTS] at hI; try first | (exfalso; omega) | (have hT : True := hI; clear hT hI))))
      | ((first | apply W.ret2 | apply W.end2); (iterate 2 (try (simp (disch := omega) only [push_cast, simprocAttr, hS, hZ, hj] <;> rfl))))
    all_goals (show _ = _; rw [← hp1]; rfl)
  · obtain ⟨hj', _, hdj, hlj, hmj, hxj⟩ := drop_cons hp0 ai .junk
    have hj : (j : Int) < 2 := by simpa using hj'
    have hj2 : (j : Int) < ((2 : Nat) : Int) := hj
    have hy : -86400 ≤ y ∧ y ≤ 1073913600 := by simp at hmj; omega
    simp only [List.map_cons, List.map_nil] at hxj
    repeat' first
      | apply AW.seq | apply AW.region | apply AW.ret | apply AW.block | apply AW.skip | apply AW.exit | apply AW.scope | apply AW.label | apply AWL.nil
      | ((first | (apply W.step cx_ok; decide) | apply W.store cx_ok | (apply W.gS; rfl; decide) | apply AW.cond); (simp (disch := omega) only [push_cast, simprocAttr, hS, hZ, Nat.mul_one, hj, hj2, hxj] <;> rfl); all_goals try ((with_reducible intro hI); try first | (cases hI; done) | (simp only [INTS] at hI; try first | (exfalso; omega) | (have hT : True := hI; clear hT hI))))
      | ((first | apply W.ret2 | apply W.end2); (iterate 2 (try (simp (disch := omega) only [push_cast, simprocAttr, hS, hZ, Nat.mul_one, hj, hj2, hxj] <;> rfl))))
    refine AW.loop (fun n s => ∃ (k : Nat) (rest : List Span), n = rest.length ∧ (d.hours.reverse.drop k = rest) ∧ ((match finalL t y rest with | some n => some n | none => finalD t d.hours ds) = final d t) ∧ (rest.length ≤ 8) ∧ 1 ≤ s.nx ∧ s.tm 1 = ai t ∧ s.tm 2 = .ptr 0 0 0 1 ∧ s.tm 7 = ai y ∧ s.tm 8 = ai ((rest.length : Int) - 1) ∧ s.tm 18 = .agg [ai (t / 86400 * 86400), ai ((t / 86400 - 1) * 86400)] ∧ s.tm 19 = ai j ∧ Pg.rowAt s.H (0) = some ({ k := 2, es := [eDoor d], ty := 98 })) (d.hours.length) ⟨0, d.hours.reverse, (by simp), rfl, hp1, (by simpa using hlen), ?_, ?_, ?_, ?_, ?_, ?_, ?_, ?_⟩ ?_
    iterate 8 (first | (simp (disch := omega) only [push_cast, simprocAttr, hS, hZ, Nat.mul_one, hj, hj2, hxj, List.length_reverse] <;> first | rfl | omega) | omega)
    rintro n2 s2 ⟨k2, rest2, hn2, hp02, hp12, hp22, hnl2, hS2⟩
    have hZ2 : (0 : Nat) ≠ s2.nx ∧ s2.nx ≠ (0 : Nat) := by omega
    rcases rest2 with _ | ⟨x2, rest2⟩
    · have hk2 : ¬ ((0 : Int) ≤ ((([] : List Span).length : Int) - 1)) := by simp
      simp only [List.length_nil] at hk2 hS2
      repeat' first
        | apply AW.seq | apply AW.region | apply AW.ret | apply AW.block | apply AW.skip | apply AW.exit | apply AW.scope | apply AW.label | apply AWL.nil
        | ((first | (apply W.step cx_ok; decide) | apply W.store cx_ok | (apply W.gS; rfl; decide) | apply AW.cond); (simp (disch := omega) only [push_cast, simprocAttr, hS2, hZ2, hk2] <;> rfl); all_goals try ((with_reducible intro hI); try first | (cases hI; done) | (simp only [INTS] at hI; try first | (exfalso; omega) | (have hT : True := hI; clear hT hI))))
        | ((first | apply W.ret2 | apply W.end2); (iterate 2 (try (simp (disch := omega) only [push_cast, simprocAttr, hS2, hZ2, hk2] <;> rfl))))
      all_goals
        (have hp1' : finalD t d.hours ds = final d t := hp12
         (refine ⟨ds.length, ?_, j + 1, ds, rfl, hdj, hp1', ?_, ?_, ?_, ?_, ?_, ?_⟩; ((simp only [List.length_cons] at *; omega)); all_goals first | (simp (disch := omega) only [push_cast, simprocAttr, hS2, hZ2] <;> first | rfl | omega) | omega))
    · obtain ⟨hk2, hg2, hd'2, hl'2, hm2⟩ := drop_rev hp02 eSpan []
      have hb := hd.hours _ hm2
      have he : (((x2 :: rest2).length : Nat) : Int) - 1 = (rest2.length : Int) := by simp
      rw [he] at hS2
      repeat' first
        | apply AW.seq | apply AW.region | apply AW.ret | apply AW.block | apply AW.skip | apply AW.exit | apply AW.scope | apply AW.label | apply AWL.nil
        | ((first | (apply W.step cx_ok; decide) | apply W.store cx_ok | (apply W.gS; rfl; decide) | apply AW.cond); (simp (disch := omega) only [push_cast, simprocAttr, hS2, hZ2, hk2, hg2] <;> rfl); all_goals try ((with_reducible intro hI); try first | (cases hI; done) | (simp only [INTS] at hI; try first | (exfalso; omega) | (have hT : True := hI; clear hT hI))))
        | ((first | apply W.ret2 | apply W.end2); (iterate 2 (try (simp (disch := omega) only [push_cast, simprocAttr, hS2, hZ2, hk2, hg2] <;> rfl))))
      all_goals first
        | (show _ = _; rw [← hp12, finalL, if_pos (by omega), if_pos (by first | omega | (simp_all; done))]; rfl)
        | (have hp1' : finalD t d.hours ds = final d t := by rw [← hp12, finalL, if_neg (by omega)]
           (refine ⟨ds.length, ?_, j + 1, ds, rfl, hdj, hp1', ?_, ?_, ?_, ?_, ?_, ?_⟩; ((simp only [List.length_cons] at *; omega)); all_goals first | (simp (disch := omega) only [push_cast, simprocAttr, hS2, hZ2] <;> first | rfl | omega) | omega))
        | (rw [finalL, if_pos (by omega), if_neg (by first | omega | (simp_all; omega) | (simp_all; done))] at hp12
           (refine ⟨rest2.length, ?_, k2 + 1, rest2, rfl, hd'2, hp12, (by simp only [List.length_cons] at hp22; omega), ?_, ?_, ?_, ?_, ?_, ?_, ?_, ?_⟩; ((simp only [List.length_cons] at *; omega)); all_goals first | (simp (disch := omega) only [push_cast, simprocAttr, hS2, hZ2, hg2, hk2] <;> first | rfl | omega) | omega))

/-- The greatest time up to one at which a door is open. -/
def lastL (d : Door) : Nat → Int → Int
  | 0, _ => -1
  | f + 1, t => if 0 ≤ t then (if (final d t).isSome = true then (if (over d.shut ((final d t).getD 0)).2 = true then lastL d f ((over d.shut ((final d t).getD 0)).1.lo - 1) else (final d t).getD 0) else -1) else -1
def last (d : Door) (t : Int) : Int := lastL d 17 t

theorem last_ok (d : Door) (t : Int) (hd : d.OK) (h0 : -1 ≤ t) (h1 : t ≤ 1073741824) : OKv cx 104 [.agg (eDoor d), ai t] (ai (last d t)) := by
  have hlen := hd.ns
  refine OKat.of_body (rs := [4]) Tryd.func104 rfl (by decide +kernel) rfl (by simp [Tryd.ntmps104]) ?_
  simp only [Tryd.ntmps104]
  repeat' first
    | apply AW.seq | apply AW.region | apply AW.ret | apply AW.block | apply AW.skip | apply AW.exit | apply AW.scope | apply AW.label | apply AWL.nil
    | ((first | (apply W.step cx_ok; decide) | apply W.store cx_ok | (apply W.gS; rfl; decide) | apply AW.cond); (simp (disch := omega) only [push_cast, simprocAttr] <;> rfl); all_goals try ((with_reducible intro hI); try first | (cases hI; done) | (simp only [INTS] at hI; try first | (exfalso; omega) | (have hT : True := hI; clear hT hI))))
    | ((first | apply W.ret1 | apply W.end1); (iterate 2 (try (simp (disch := omega) only [push_cast, simprocAttr] <;> rfl))))
  refine AW.loop (fun n s => ∃ (f : Nat) (u : Int) (i : Int), n = f ∧ (i + f = 17) ∧ (0 ≤ i ∧ -1 ≤ u ∧ u ≤ 1073741824) ∧ (lastL d f u = last d t) ∧ 1 ≤ s.nx ∧ s.tm 1 = ai u ∧ s.tm 2 = .ptr 0 0 0 1 ∧ s.tm 5 = ai i ∧ Pg.rowAt s.H (0) = some ({ k := 2, es := [eDoor d], ty := 98 })) (17) ⟨17, t, 0, rfl, by omega, by omega, rfl, ?_, ?_, ?_, ?_, ?_⟩ ?_
  iterate 5 (first | (simp (disch := omega) only [push_cast, simprocAttr] <;> first | rfl | omega) | omega)
  rintro n s ⟨f, u, i, hn, hp0, hp1, hp2, hnl, hS⟩
  have hZ : (0 : Nat) ≠ s.nx ∧ s.nx ≠ (0 : Nat) := by omega
  rcases f with _ | f
  · have hi : ¬ (i ≤ 16) := by omega
    repeat' first
      | apply AW.seq | apply AW.region | apply AW.ret | apply AW.block | apply AW.skip | apply AW.exit | apply AW.scope | apply AW.label | apply AWL.nil
      | ((first | (apply W.step cx_ok; decide) | apply W.store cx_ok | (apply W.gS; rfl; decide) | apply AW.cond); (simp (disch := omega) only [push_cast, simprocAttr, hS, hZ, hi] <;> rfl); all_goals try ((with_reducible intro hI); try first | (cases hI; done) | (simp only [INTS] at hI; try first | (exfalso; omega) | (have hT : True := hI; clear hT hI))))
      | ((first | apply W.ret1 | apply W.end1); (iterate 2 (try (simp (disch := omega) only [push_cast, simprocAttr, hS, hZ, hi] <;> rfl))))
    all_goals (show _ = _; rw [← hp2]; rfl)
  · have hi : i ≤ 16 := by omega
    repeat' first
      | apply AW.seq | apply AW.region | apply AW.ret | apply AW.block | apply AW.skip | apply AW.exit | apply AW.scope | apply AW.label | apply AWL.nil
      | ((first | (apply W.step cx_ok; decide) | apply W.store cx_ok | (apply W.gS; rfl; decide) | apply AW.cond); (simp (disch := omega) only [push_cast, simprocAttr, hS, hZ, hi] <;> rfl); all_goals try ((with_reducible intro hI); try first | (cases hI; done) | (simp only [INTS] at hI; try first | (exfalso; omega) | (have hT : True := hI; clear hT hI))))
      | ((apply W.callv cx_ok; decide); (iterate 2 (simp (disch := omega) only [push_cast, simprocAttr, hS, hZ, hi] <;> rfl)); (with_reducible first | exact final_ok _ _ hd (by omega) (by omega) | exact over_ok _ _ (by omega)); try first | rfl | (simp (disch := omega) only [push_cast, simprocAttr, hS, hZ, hi] <;> rfl))
      | ((first | apply W.ret1 | apply W.end1); (iterate 2 (try (simp (disch := omega) only [push_cast, simprocAttr, hS, hZ, hi] <;> rfl))))
    all_goals first
      | (show _ = _; rw [← hp2]; simp [lastL, *]; done)
      | (show _ = _; rw [← hp2, lastL, if_neg (by omega)]; done)
      | (have ho := over_mem d.shut ((final d u).getD 0) (by assumption)
         have hb := hd.shut _ ho.1
         have hp2' : lastL d f ((over d.shut ((final d u).getD 0)).1.lo - 1) = last d t := by rw [← hp2]; simp [lastL, *]
         (refine ⟨f, ?_, f, _, i + 1, rfl, (by omega), (by omega), hp2', ?_, ?_, ?_, ?_, ?_⟩; (omega); all_goals first | (simp (disch := omega) only [push_cast, simprocAttr, hS, hZ, hi] <;> first | rfl | omega) | omega))

end Go.Proofs.Hs
