/-
  Contracts of functions, proved by going through their code. No conditions.
-/
import Derived.Laws.IdiomStrings
import Derived.RangeFuncIn
import Derived.RangeFuncRecord
import Derived.Test.YtbeiiipphicdlaaGreatDoorTak
import Derived.Test.YtbeiiipphicdlaaGreatDoorTap
import Derived.Test.YtbeiiipphicdlaaGreatDoorTar
set_option linter.unusedVariables false
set_option linter.unusedSimpArgs false
set_option maxRecDepth 10000
namespace Go.Proofs.Hz
open Go Go.Pg Go.Proofs Go.Tx
def minusB (s : ByteArray) : Bool := decide (0 < s.size) && decide ((bl s).getD 0 0 = 45)
def magB (s : ByteArray) : ByteArray := if minusB s = true then s.extract 1 s.size else s
def numD (s : ByteArray) : Int × Bool :=
  if (magB s).size < 1 ∨ 10 < (magB s).size then (0, false)
  else if (∀ c ∈ bl (magB s), isDig c) then (if minusB s = true then 0 - (valD 0 (bl (magB s)) : Int) else (valD 0 (bl (magB s)) : Int), true) else (0, false)
theorem dec_len (u : Nat) (h : u < 10000000000) : (Lib.decDigits u).length ≤ 10 := by rw [Lib.decDigits_length]; exact nDigits_le 9 u h
theorem numD_itoa (n : Int) (h0 : -10000000000 < n) (h1 : n < 10000000000) : numD (itoaB n) = (n, true) := by
  by_cases hn : n < 0
  · have hb : bl (itoaB n) = 45 :: Lib.decDigits n.natAbs := by rw [itoa_bl]; unfold Lib.itoa; rw [if_pos hn]
    have hs : (itoaB n).size = (Lib.decDigits n.natAbs).length + 1 := by rw [← bl_len, hb]; rfl
    have hm : minusB (itoaB n) = true := by
      unfold minusB
      rw [hb, decide_eq_true (by omega : 0 < (itoaB n).size)]
      rfl
    have hg : bl (magB (itoaB n)) = Lib.decDigits n.natAbs := by
      unfold magB
      rw [if_pos hm, bl_ext_end, hb]; rfl
    have hl := dec_len n.natAbs (by omega)
    have hp : 0 < (Lib.decDigits n.natAbs).length := List.length_pos_iff.2 (dec_ne _)
    have hgs : (magB (itoaB n)).size = (Lib.decDigits n.natAbs).length := by rw [← bl_len, hg]
    unfold numD
    rw [if_neg (by omega), if_pos (by rw [hg]; exact dec_digit _ _ (Nat.le_refl _)), if_pos hm, hg, valD_dec _ _ (Nat.le_refl _)]
    congr 1; omega
  · have hb : bl (itoaB n) = Lib.decDigits n.toNat := by rw [itoa_bl]; unfold Lib.itoa; rw [if_neg hn]
    obtain ⟨c, r, hc, d1, d2⟩ := dec_cons n.toNat
    have hm : minusB (itoaB n) = false := by
      unfold minusB
      rw [hb, hc]
      have : ¬ c = 45 := fun e => by subst e; revert d1; decide
      simp [this]
    have hg : magB (itoaB n) = itoaB n := by unfold magB; rw [hm, if_neg Bool.false_ne_true]
    have hl := dec_len n.toNat (by omega)
    have hp : 0 < (Lib.decDigits n.toNat).length := List.length_pos_iff.2 (dec_ne _)
    have hgs : (itoaB n).size = (Lib.decDigits n.toNat).length := by rw [← bl_len, hb]
    unfold numD
    rw [hg, hm, if_neg (by omega), if_pos (by rw [hb]; exact dec_digit _ _ (Nat.le_refl _)), if_neg Bool.false_ne_true, hb, valD_dec _ _ (Nat.le_refl _)]
    congr 1; omega
def numsD : List ByteArray → List Int → List Int × Bool
  | [], o => (o, true)
  | x :: l, o => if (numD x).2 = true then numsD l (o ++ [(numD x).1]) else ([], false)
def dNone : Door := ⟨[], []⟩
def hoursD : List ByteArray → Bool → Door → Door × Bool
  | [], _, d => (d, true)
  | x :: l, b, d => if bl x = bl sShut then hoursD l true d
    else if (numsD (Tx.wordsB 45 x) []).2 = true ∧ (numsD (Tx.wordsB 45 x) []).1.length = 2 then
      hoursD l b (if b = true then ⟨d.hours, d.shut ++ [⟨(numsD (Tx.wordsB 45 x) []).1.getD 0 0, (numsD (Tx.wordsB 45 x) []).1.getD 1 0⟩]⟩ else ⟨d.hours ++ [⟨(numsD (Tx.wordsB 45 x) []).1.getD 0 0, (numsD (Tx.wordsB 45 x) []).1.getD 1 0⟩], d.shut⟩)
    else (dNone, false)
def withW (h : House) (w : List ByteArray) : House × Bool :=
  if bl (wAt w 0) = bl sRoom ∧ w.length = 3 then (⟨h.rooms ++ [⟨wAt w 1, (numD (wAt w 2)).1⟩], h.doors, h.ways⟩, (numD (wAt w 2)).2)
  else if bl (wAt w 0) = bl sDoor then (⟨h.rooms, h.doors ++ [(hoursD (w.drop 1) false dNone).1], h.ways⟩, (hoursD (w.drop 1) false dNone).2)
  else if bl (wAt w 0) = bl sWay ∧ w.length = 6 then
    if (numsD (w.drop 1) []).2 = true then (⟨h.rooms, h.doors, h.ways ++ [⟨(numsD (w.drop 1) []).1.getD 0 0, (numsD (w.drop 1) []).1.getD 1 0, (numsD (w.drop 1) []).1.getD 2 0, (numsD (w.drop 1) []).1.getD 3 0, (numsD (w.drop 1) []).1.getD 4 0⟩]⟩, true) else (h, false)
  else (h, false)
def withD (h : House) (line : ByteArray) : House × Bool := withW h (Tx.wordsB 32 line)
def foldD : List ByteArray → House → House × Bool
  | [], h => (h, true)
  | x :: l, h => if l = [] then (h, true) else if (withD h x).2 = true then foldD l (withD h x).1 else (hNone, false)
def parseD (text : ByteArray) : House × Int :=
  if (foldD (Tx.wordsB 10 text) hNone).2 = true ∧ GoodH text (foldD (Tx.wordsB 10 text) hNone).1 then ((foldD (Tx.wordsB 10 text) hNone).1, 0) else (hNone, 7)
theorem words_of {x : ByteArray} {xs : List ByteArray} (h : ∀ y ∈ x :: xs, (32 : UInt8) ∉ bl y ∧ (10 : UInt8) ∉ bl y) {line : ByteArray} (hl : bl line = Lib.join ((x :: xs).map bl) [32]) : Tx.wordsB 32 line = x :: xs := by
  rw [wordsB_eq, hl, List.map_cons, words_join 32 _ _ (h x (by simp)).1 (fun y hy => by
    obtain ⟨z, hz, rfl⟩ := List.mem_map.1 hy
    exact (h z (by simp [hz])).1), ← List.map_cons, List.map_map]
  conv => rhs; rw [← List.map_id (x :: xs)]
  exact List.map_congr_left fun b _ => mk_bl b
theorem nums_span (x : Span) (h0 : 0 ≤ x.lo) (h1 : x.lo ≤ x.hi) (h2 : x.hi ≤ 2147483648) : numsD (Tx.wordsB 45 (spanB x)) [] = ([x.lo, x.hi], true) := by
  have hw : Tx.wordsB 45 (spanB x) = [itoaB x.lo, itoaB x.hi] := by
    rw [wordsB_eq, span_bl, wordsF_cons (itoa_plain x.lo h0), wordsF_none (itoa_plain x.hi (by omega))]
    simp only [List.map_cons, List.map_nil, mk_bl]
  rw [hw]
  simp only [numsD, numD_itoa x.lo (by omega) (by omega), numD_itoa x.hi (by omega) (by omega), if_true, List.nil_append, List.singleton_append]
theorem hoursD_hours : ∀ (l : List Span) (d : Door) (r : List ByteArray), (∀ x ∈ l, 0 ≤ x.lo ∧ x.lo ≤ x.hi ∧ x.hi ≤ 2147483648) → hoursD (l.map spanB ++ r) false d = hoursD r false ⟨d.hours ++ l, d.shut⟩
  | [], d, r, _ => by rw [List.append_nil]; rfl
  | x :: l, d, r, h => by
    obtain ⟨h0, h1, h2⟩ := h x (by simp)
    rw [List.map_cons, List.cons_append]
    conv => lhs; unfold hoursD
    rw [if_neg (span_not_shut x), nums_span x h0 h1 h2, if_pos ⟨rfl, rfl⟩, if_neg Bool.false_ne_true, hoursD_hours l _ r fun y hy => h y (by simp [hy])]
    show hoursD r false ⟨d.hours ++ [x] ++ l, d.shut⟩ = _
    rw [List.append_assoc]; rfl
theorem hoursD_shut : ∀ (l : List Span) (d : Door), (∀ x ∈ l, 0 ≤ x.lo ∧ x.lo ≤ x.hi ∧ x.hi ≤ 2147483648) → hoursD (l.map spanB) true d = (⟨d.hours, d.shut ++ l⟩, true)
  | [], d, _ => by rw [List.append_nil]; rfl
  | x :: l, d, h => by
    obtain ⟨h0, h1, h2⟩ := h x (by simp)
    rw [List.map_cons]
    unfold hoursD
    rw [if_neg (span_not_shut x), nums_span x h0 h1 h2, if_pos ⟨rfl, rfl⟩, if_pos rfl, hoursD_shut l _ fun y hy => h y (by simp [hy])]
    show ((⟨d.hours, d.shut ++ [x] ++ l⟩ : Door), true) = _
    rw [List.append_assoc]; rfl
theorem hoursD_all (d : Door) (h : Dok d) : hoursD (d.hours.map spanB ++ ([sShut] ++ d.shut.map spanB)) false dNone = (d, true) := by
  rw [hoursD_hours _ _ _ h.1, List.singleton_append]
  unfold hoursD
  rw [if_pos rfl, hoursD_shut _ _ h.2]
  rfl
theorem withD_room (h : House) {r : Room} (hn : named r.name = true) (hf : -60 ≤ r.floor ∧ r.floor ≤ 60) {line : ByteArray} (hl : bl line = Lib.join ([sRoom, r.name, itoaB r.floor].map bl) [32]) : withD h line = (⟨h.rooms ++ [r], h.doors, h.ways⟩, true) := by
  unfold withD withW
  rw [words_of (wordsR_clean hn) hl, if_pos ⟨rfl, rfl⟩]
  show ((⟨h.rooms ++ [⟨r.name, (numD (itoaB r.floor)).1⟩], h.doors, h.ways⟩ : House), (numD (itoaB r.floor)).2) = _
  rw [numD_itoa _ (by omega) (by omega)]
theorem withD_door (h : House) {d : Door} (hd : Dok d) {line : ByteArray} (hl : bl line = Lib.join ((wordsD d).map bl) [32]) : withD h line = (⟨h.rooms, h.doors ++ [d], h.ways⟩, true) := by
  rw [wordsD_cons] at hl
  unfold withD withW
  rw [words_of (wordsD_clean d) hl, wAt0, if_neg (fun hh => by have h1 := hh.1; revert h1; decide), if_pos rfl, List.drop_one, List.tail_cons, hoursD_all d hd]
theorem withD_way (h : House) {w : Way} {nr nd : Nat} (hw0 : w.OK nr nd) (hb : nr ≤ 1048576 ∧ nd ≤ 1048576) {line : ByteArray} (hl : bl line = Lib.join ((wordsW w).map bl) [32]) : withD h line = (⟨h.rooms, h.doors, h.ways ++ [w]⟩, true) := by
  obtain ⟨⟨a1, a2⟩, ⟨b1, b2⟩, _, ⟨c1, c2⟩, ⟨d1, d2⟩, ⟨e1, e2⟩⟩ := hw0
  have hw := words_of (x := sWay) (xs := [itoaB w.a, itoaB w.b, itoaB w.secs, itoaB w.back, itoaB w.door]) (wordsW_clean w) hl
  have hn : numsD [itoaB w.a, itoaB w.b, itoaB w.secs, itoaB w.back, itoaB w.door] [] = ([w.a, w.b, w.secs, w.back, w.door], true) := by
    simp only [numsD, numD_itoa w.a (by omega) (by omega), numD_itoa w.b (by omega) (by omega), numD_itoa w.secs (by omega) (by omega), numD_itoa w.back (by omega) (by omega), numD_itoa w.door (by omega) (by omega), if_true, List.nil_append, List.singleton_append, List.cons_append]
  unfold withD withW
  rw [hw, wAt0, if_neg (fun hh => by have h1 := hh.1; revert h1; decide), if_neg (by decide), if_pos ⟨rfl, rfl⟩, List.drop_one, List.tail_cons, hn, if_pos rfl]
  rfl
def pcs (text : ByteArray) : List ByteArray := Tx.wordsB 10 text
theorem fold_step {h h' : House} {line rest : ByteArray} {l : List UInt8} (he : bl line = l ++ [10]) (hn : (10 : UInt8) ∉ l) (hf : withD h (mkB l) = (h', true)) : foldD (pcs (line ++ rest)) h = foldD (pcs rest) h' := by
  have hs : pcs (line ++ rest) = mkB l :: pcs rest := by
    unfold pcs
    rw [wordsB_eq, wordsB_eq, bl_app, he, List.append_assoc, List.singleton_append, wordsF_cons hn, List.map_cons]
  have hne : pcs rest ≠ [] := by
    unfold pcs
    rw [wordsB_eq]
    intro e
    exact wordsF_ne 10 (bl rest) (List.map_eq_nil_iff.1 e)
  rw [hs, foldD, if_neg hne, hf, if_pos rfl]
theorem line_cut (xs : List ByteArray) (h : ∀ y ∈ xs, (10 : UInt8) ∉ bl y) : ∃ l, bl (wordsB xs) = l ++ [10] ∧ (10 : UInt8) ∉ l ∧ bl (mkB l) = Lib.join (xs.map bl) [32] :=
  ⟨_, line_bl xs, join_not 10 32 (by decide) _ (fun y hy => by
    obtain ⟨z, hz, rfl⟩ := List.mem_map.1 hy
    exact h z hz), rfl⟩
theorem fold_rooms : ∀ (rs : List Room) (h : House) (rest : ByteArray), (∀ r ∈ rs, named r.name = true ∧ -60 ≤ r.floor ∧ r.floor ≤ 60) → foldD (pcs (catB (rs.map lineR) ++ rest)) h = foldD (pcs rest) ⟨h.rooms ++ rs, h.doors, h.ways⟩
  | [], h, rest, _ => by simp [catB]
  | r :: rs, h, rest, hv => by
    obtain ⟨l, e1, e2, e3⟩ := line_cut [sRoom, r.name, itoaB r.floor] fun y hy => (wordsR_clean (hv r (by simp)).1 y hy).2
    rw [List.map_cons, catB_cons, ByteArray.append_assoc, fold_step (line := lineR r) e1 e2 (withD_room h (hv r (by simp)).1 (hv r (by simp)).2 e3), fold_rooms rs _ rest (fun x hx => hv x (by simp [hx])), List.append_assoc]
    rfl
theorem fold_doors : ∀ (ds : List Door) (h : House) (rest : ByteArray), (∀ d ∈ ds, Dok d) → foldD (pcs (catB (ds.map lineD) ++ rest)) h = foldD (pcs rest) ⟨h.rooms, h.doors ++ ds, h.ways⟩
  | [], h, rest, _ => by simp [catB]
  | d :: ds, h, rest, hv => by
    obtain ⟨l, e1, e2, e3⟩ := line_cut (wordsD d) fun y hy => (wordsD_clean d y (by rw [← wordsD_cons]; exact hy)).2
    rw [List.map_cons, catB_cons, ByteArray.append_assoc, fold_step (line := lineD d) e1 e2 (withD_door h (hv d (by simp)) e3), fold_doors ds _ rest (fun x hx => hv x (by simp [hx])), List.append_assoc]
    rfl
theorem fold_ways (nr nd : Nat) (hb : nr ≤ 1048576 ∧ nd ≤ 1048576) : ∀ (ws : List Way) (h : House) (rest : ByteArray), (∀ w ∈ ws, w.OK nr nd) → foldD (pcs (catB (ws.map lineW) ++ rest)) h = foldD (pcs rest) ⟨h.rooms, h.doors, h.ways ++ ws⟩
  | [], h, rest, _ => by simp [catB]
  | w :: ws, h, rest, hv => by
    obtain ⟨l, e1, e2, e3⟩ := line_cut (wordsW w) fun y hy => (wordsW_clean w y hy).2
    rw [List.map_cons, catB_cons, ByteArray.append_assoc, fold_step (line := lineW w) e1 e2 (withD_way h (hv w (by simp)) hb e3), fold_ways nr nd hb ws _ rest (fun x hx => hv x (by simp [hx])), List.append_assoc]
    rfl
theorem foldD_good {text : ByteArray} {h : House} (hg : GoodH text h) : foldD (Tx.wordsB 10 text) hNone = (h, true) := by
  obtain ⟨hc, rfl⟩ := hg
  have hv := Check_V hc
  show foldD (pcs (textB h)) hNone = _
  unfold textB
  rw [fold_rooms h.rooms hNone _ (Check_rooms hc), fold_doors h.doors _ _ (fun d hd => doorV_Dok (hv.doors d hd))]
  have e := fold_ways h.rooms.length h.doors.length (by have := hv.rooms; have := hv.nd; omega) h.ways ⟨hNone.rooms ++ h.rooms, hNone.doors ++ h.doors, hNone.ways⟩ ByteArray.empty hv.ways
  rw [ByteArray.append_empty] at e
  rw [e]
  rfl
theorem parse_both (text : ByteArray) : parseD text = parseF text := by
  by_cases h : ∃ x, GoodH text x
  · obtain ⟨x, h⟩ := h
    rw [parseF_good h]
    unfold parseD
    rw [foldD_good h, if_pos ⟨rfl, h⟩]
  · rw [parseF_bad h]
    unfold parseD
    rw [if_neg fun hh => h ⟨_, hh.2⟩]
end Go.Proofs.Hz

namespace Go.Pg
open Go Go.RowKit
section
variable {C : Cx} {N : Nat} {Q : Exit → St → Prop} {s : St} {ops : Array Oper} {rest : List Oper} {ty : TypeId} {ps : String} {af : Array Edge} {d : Nat}
theorem W.byteStr (hN : d < N) {src dst e : TypeId} {x : Operand} {id : Nat} {r : Row} {c : Int} (h1 : C.P.underlying src = some (.slice e)) (h2 : C.P.underlying e = some (.int .u8)) (h3 : C.P.underlying dst = some .string)
    (hx : s.ev x = .ref id 0 1) (hr : rowAt s.H id = some r) (he : r.es = [[.v (.int .u8 c)]]) (hc : 0 ≤ c ∧ c < 256)
    (k : AWL C N ops Q rest (s.put d (.v (.string (ByteArray.mk #[UInt8.ofNat c.toNat]))) none)) : AWL C N ops Q (⟨some d, .convert src dst x, ty, ps, af, none⟩ :: rest) s := by
  refine AWL.pureOp rfl rfl hN (fun S0 w0 a w σ hσ => ?_) k
  have hv := hσ.ev x
  rw [hx] at hv
  simp only [Rep] at hv
  obtain ⟨_, A, cap, hu, g1, g2, g3, g4⟩ := hv
  have hR := hσ.inv.row id r (rowAt_eq hr)
  have hk : r.k = 1 := by
    have := (hR.each [.v (.int .u8 c)] (by rw [he]; simp)).1
    simpa using this.symm
  have hlen : σ.len id = 1 := by rw [hR.len, he]; rfl
  rcases g4 trivial hlen.symm with ⟨_, h0, _⟩ | ⟨b, hb, rfl, hcap⟩
  · cases h0
  have hcon := hR.con b hb 0 (by simp [he])
  simp only [he, List.getElem_cons_zero, RepL, Rep, Nat.zero_mul, Nat.add_zero, Nat.zero_add] at hcon
  obtain ⟨⟨u, hu1, rfl⟩, _⟩ := hcon
  have hn : (UInt8.ofNat c.toNat).toNat = c.toNat := by rw [UInt8.toNat_ofNat']; omega
  have hcell : ∀ j (hj : j < [UInt8.ofNat c.toNat].length), w.cell? ((⟨b, 0, none⟩ : Addr).add j) = some (.int .u8 (([UInt8.ofNat c.toNat])[j].toNat : Int)) := by
    intro j hj
    have : j = 0 := by simpa using hj
    subst this
    simp only [List.getElem_cons_zero, hn]
    rw [Int.toNat_of_nonneg hc.1]
    exact hu1
  have hrun := run_convert_bytes_back (P := C.P) w src dst e ⟨b, 0, none⟩ cap [UInt8.ofNat c.toNat] h1 h2 h3 hcell
  refine ⟨.string (ByteArray.mk #[UInt8.ofNat c.toNat]), ?_, rfl⟩
  simp only [execOp, hu, Sem.run_bind]
  exact congrArg (fun z => Result.andThen z fun a w => (pure (Next.value a) : Sem Next).run C.P w) hrun
end
end Go.Pg

namespace Go.Pg
open Go Go.RowKit
section
variable {B0 : Nat} {S0 : Fr} {w w' : World} {H : Nat → Option AO} {σ : Sg}
def flatE (es : List (List AV)) : Prop := ∀ e ∈ es, ∀ c ∈ e, ∃ x, c = .v x
theorem repL_flat {σ1 σ2 : Sg} {w1 w2 : World} {cs : List AV} {f : Nat → Option Value} (hf : ∀ c ∈ cs, ∃ x, c = .v x) (h : RepL σ1 w1 cs f) : RepL σ2 w2 cs f := by
  rw [repL_iff'] at h ⊢
  intro i c hc
  obtain ⟨u, h1, h2⟩ := h i c hc
  refine ⟨u, h1, ?_⟩
  obtain ⟨x, rfl⟩ := hf c (List.mem_of_getElem? hc)
  simpa [Rep] using h2
theorem Inv.le_take (hi : Inv B0 S0 w H σ) {id b n k cap : Nat} (hf : H id = none) (hw : Below w.heap.size w w') (hb : w.heap.size ≤ b) : Le σ (σ.push b id n k cap) w w' := by
  refine ⟨fun _ h => h, fun b h => hw.block b (hi.S_lt b h).1, fun b' i h => ?_, fun _ h => .inr h, fun i ha => ?_⟩
  · have hb' := (hi.own_lt b' i h).2
    have hne : i ≠ id := fun e => (hi.fresh id hf).2 b' (e ▸ h)
    refine ⟨hi.al_of_own h, ?_, ?_, ?_⟩
    · simp only [Sg.push]; rw [if_neg (by omega)]; exact h
    · simp only [Sg.push]; rw [if_neg hne]
    · simp only [Sg.push]; rw [if_neg (by omega)]; exact Nat.le_refl _
  · have hne : i ≠ id := fun e => by subst e; exact (hi.al i).1 ha hf
    refine .inl ⟨by simp only [Sg.push]; rw [if_neg hne], by simp only [Sg.push]; rw [if_neg hne], fun b' hb' => ?_⟩
    have hlt : b' < w.heap.size := by
      cases ho : H i with
      | none => exact absurd ho ((hi.al i).1 ha)
      | some o =>
        cases o with
        | row r => exact (hi.own_lt b' i ((hi.row i r ho).cur b' hb').1).2
        | mp kt et es =>
          obtain ⟨b2, _, _, a1, a2, _⟩ := (hi.mp i kt et es ho).cur
          rw [a1] at hb'; cases hb'
          exact (hi.own_lt b' i a2).2
    simp only [Sg.push]; rw [if_neg (by omega)]
theorem Inv.take (hi : Inv B0 S0 w H σ) {id b : Nat} (hf : H id = none) (hB : B0 ≤ w.heap.size) (hw : Below w.heap.size w w') (hb1 : w.heap.size ≤ b) (hb2 : b < w'.heap.size) (r : Row) (cap : Nat) (arr : Array Value)
    (hbl : w'.heap[b]? = some (.cells arr r.ty (0, 0))) (hcap : r.es.length ≤ cap) (hmax : cap ≤ maxLen) (hsz : arr.size = cap * r.k) (hg : r.fro = false) (hlo : r.lo ≤ r.es.length)
    (each : ∀ e ∈ r.es, e.length = r.k ∧ ∀ c ∈ e, c.cell = true) (hflat : flatE r.es)
    {σ' : Sg} (hcon : ∀ i (hi : i < r.es.length), RepL σ' w' r.es[i] (fun j => w'.cell? ⟨b, i * r.k + j, none⟩)) :
    Inv B0 S0 w' (updH H id (.row r)) (σ.push b id r.es.length r.k cap) := by
  have hle := hi.le_take (n := r.es.length) (k := r.k) (cap := cap) hf hw hb1
  have hS : ¬ σ.S b := fun h => by have := (hi.S_lt _ h).1; omega
  have hsize := hw.size
  refine ⟨fun i => ?_, fun i hn => ?_, fun b h => ⟨by have := (hi.S_lt b h).1; omega, (hi.S_lt b h).2⟩, fun b' i h => ?_, fun i r' h => ?_, fun i kt et es h => ?_, S0.mono _ _ _ _ hle hi.fr⟩
  · simp only [Sg.push, updH]
    by_cases e : i = id
    · simp [e]
    · simp [e, hi.al]
  · simp only [updH] at hn
    have e : i ≠ id := fun e => by simp [e] at hn
    rw [if_neg e] at hn
    obtain ⟨h1, h2⟩ := hi.fresh i hn
    refine ⟨by simp only [Sg.push]; rw [if_neg e]; exact h1, fun b' hb => ?_⟩
    simp only [Sg.push] at hb
    split at hb
    · injection hb with hb; exact e hb.symm
    · exact h2 b' hb
  · simp only [Sg.push] at h
    split at h
    · subst b'; exact ⟨by omega, hb2⟩
    · have := hi.own_lt b' i h; exact ⟨this.1, by omega⟩
  · simp only [updH] at h
    by_cases e : i = id
    · subst e
      rw [if_pos rfl] at h; injection h with h; injection h with h; subst h
      have hnew : ∀ b', (σ.push b i r.es.length r.k cap).own b' = some i → b' = b := fun b' hb => by
        simp only [Sg.push] at hb
        split at hb
        · assumption
        · exact absurd hb ((hi.fresh i hf).2 b')
      refine ⟨by simp [Sg.push], by simp [Sg.push], each, hlo, fun b' hb => ?_, fun hc => by simp [Sg.push] at hc, fun b' hb => ?_, fun b' hb j h1 => ?_⟩
      · simp only [Sg.push, if_true] at hb; injection hb with hb; subst hb
        exact ⟨by simp [Sg.push], by simp [Sg.push], by simpa [Sg.push] using hcap, by simpa [Sg.push] using hmax, arr, hbl, by simpa [Sg.push] using hsz⟩
      · have := hnew b' hb; subst this
        exact ⟨.inl (by simp [Sg.push]), by simp [Sg.push], fun h => (by rw [hg] at h; cases h), fun _ => hS⟩
      · simp only [Sg.push, if_true] at hb; injection hb with hb; subst hb
        exact repL_flat (hflat _ (List.getElem_mem h1)) (hcon j h1)
    · rw [if_neg e] at h
      have hr := hi.row i r' h
      have hown : ∀ b', (σ.push b id r.es.length r.k cap).own b' = some i → σ.own b' = some i ∧ b' ≠ b := fun b' hb => by
        simp only [Sg.push] at hb
        split at hb
        · injection hb with hb; exact absurd hb.symm e
        · exact ⟨hb, by assumption⟩
      have hx : ∀ b', b' ≠ b → (σ.push b id r.es.length r.k cap).ext b' = σ.ext b' := fun b' hb => by simp only [Sg.push]; rw [if_neg hb]
      have hcx : (σ.push b id r.es.length r.k cap).cur i = σ.cur i := by simp only [Sg.push]; rw [if_neg e]
      have hax : ∀ b', b' ≠ b → (σ.push b id r.es.length r.k cap).cap b' = σ.cap b' := fun b' hb => by simp only [Sg.push]; rw [if_neg hb]
      refine ⟨by simp only [Sg.push]; rw [if_neg e]; exact hr.len, by simp only [Sg.push]; rw [if_neg e]; exact hr.k, hr.each, hr.lo, fun b' hb => ?_, fun hc => hr.empty (by rw [← hcx]; exact hc), fun b' hb => ?_, fun b' hb j h1 => ?_⟩
      · rw [hcx] at hb
        obtain ⟨a1, a2, a3, a4, ar, a5, a6⟩ := hr.cur b' hb
        have hlt := (hi.own_lt b' i a1).2
        exact ⟨by simp only [Sg.push]; rw [if_neg (by omega)]; exact a1, by rw [hx b' (by omega)]; exact a2, by rw [hax b' (by omega)]; exact a3, by rw [hax b' (by omega)]; exact a4, ar, (hw.block b' hlt).trans a5, by rw [hax b' (by omega)]; exact a6⟩
      · obtain ⟨h1, h2⟩ := hown b' hb
        rw [hx b' h2, hcx]; exact hr.own b' h1
      · rw [hcx] at hb
        refine RepL.mono hle _ _ _ (fun m u hu => ?_) (hr.con b' hb j h1)
        rw [cell_of_heap (w := w) (hw.block b' (hi.own_lt b' i (hr.cur b' hb).1).2)]; exact hu
  · simp only [updH] at h
    by_cases e : i = id
    · subst e; simp at h
    · rw [if_neg e] at h
      have hm := hi.mp i kt et es h
      obtain ⟨b', clock, xs, a1, a2, a3, a4, a5, a6⟩ := hm.cur
      have hlt := (hi.own_lt b' i a2).2
      refine ⟨by simp only [Sg.push]; rw [if_neg e]; exact hm.len, ⟨b', clock, xs, by simp only [Sg.push]; rw [if_neg e]; exact a1, by simp only [Sg.push]; rw [if_neg (by omega)]; exact a2, a3, (hw.block b' hlt).trans a4, a5, RepL.mono hle _ _ _ (fun _ _ h => h) a6⟩, fun b2 hb => ?_⟩
      simp only [Sg.push] at hb
      split at hb
      · injection hb with hb; exact absurd hb.symm e
      · rename_i hne
        obtain ⟨h1, h2⟩ := hm.one b2 hb
        exact ⟨by simp only [Sg.push]; rw [if_neg e]; exact h1, by simp only [Sg.push]; rw [if_neg hne]; exact h2⟩
end
section
variable {C : Cx} {N : Nat} {Q : Exit → St → Prop} {s : St} {ops : Array Oper} {rest : List Oper} {o : Oper}
end
end Go.Pg

namespace Go.Pg
open Go Go.RowKit
def pur (c : AV) : AV := if pureA c = true then c else .junk
theorem pur_rep {σ : Sg} {w : World} {c : AV} {u : Value} (h : Rep σ w c u) : Rep (pureSg σ.S) w (pur c) u := by
  unfold pur
  split
  · rename_i hp; exact Rep.pure_ c u hp h
  · trivial
section
variable {C : Cx} {N : Nat} {ops : Array Oper} {d : Nat} {op : Op} {ty : TypeId} {ps : String} {af : Array Edge} {tg mk av : List Nat} {H0 : Nat → Option AO} {b i : Nat} {Fin : St → Prop} {rest : List Oper} {s : St}
theorem one_buildL (hC : C.OK) (hN : d < N) {s' : St} {n : Nat} {row : Row} (h : stepA C.T C.eqT (fun _ => none) (fun x => pur (s'.ev x)) 0 op = some (.ref 0 0 n, some row)) (hp : row.es.all pureL = true) (hn : row.es.length = n) (hlo : row.lo ≤ n) :
    One C N ops ⟨some d, op, ty, ps, af, none⟩ s' ⟨upd s'.tm d (.lst row.es), s'.H, s'.nx⟩ := by
  rintro S0 w0 a w K Q hE ⟨σ, hσ⟩ hK
  have hi0 : Inv w.heap.size (Fr.of σ.S) w (fun _ => none) (pureSg σ.S) :=
    ⟨fun id => by simp [pureSg], fun id _ => ⟨rfl, fun b h => by simp [pureSg] at h⟩, fun b h => ⟨(hσ.inv.S_lt b h).1, .inl h⟩, fun b id h => by simp [pureSg] at h, fun id r h => by simp at h, fun id kt et es h => by simp at h, trivial⟩
  obtain ⟨v, w', σ', h1, h2, h3, h4, h5⟩ := stepA_sound (o := ⟨some d, op, ty, ps, af, none⟩) hC.T hC.eqT hi0 (Nat.le_refl _) rfl (fun x => pur_rep (hσ.ev x)) h
  rw [if_pos (by simp [Region.wanted])]
  refine Oper.wpIn_of_wp C.hF (stepA_nodefer h) ?_
  simp only [Oper.wp, Oper.upon, h1]
  have hv : viewA (putH (fun _ => none) 0 (some row)) (.ref 0 0 n) = some (.lst row.es) := by
    have hr : rowAt (putH (fun _ => none) 0 (some row)) 0 = some row := by simp [putH, rowAt, updH]
    unfold viewA
    rw [hr]
    simp only [Nat.zero_add]
    rw [if_pos ⟨hlo, by omega, hp⟩, List.drop_zero, List.take_of_length_le (by omega)]
  have hr := viewA_sound h4 (S' := (σ.more w.heap.size w'.heap.size).S) (fun b hb => by
    have := h4.S_lt b hb
    rcases this.2 with hq | hq
    · exact .inl hq
    · exact .inr ⟨hq, this.1⟩) _ _ _ hv (fun id _ b hb => .inr (h4.own_lt b id hb)) h5
  have hmore := hσ.inv.more hσ.size h2
  have hlem := hσ.inv.le_more h2
  exact hK _ _ ⟨_, hσ.put hN (s' := ⟨upd s'.tm d (.lst row.es), s'.H, s'.nx⟩) hmore hσ.nx hlem (h2.mono hσ.size) hr.lift rfl⟩
theorem D.buildL (hC : C.OK) (hN : d < N) (hi : i ∉ tg ∧ i ∈ mk) {n : Nat} {row : Row} (h : stepA C.T C.eqT (fun _ => none) (fun x => pur (s.ev x)) 0 op = some (.ref 0 0 n, some row)) (hp : row.es.all pureL = true) (hn : row.es.length = n) (hlo : row.lo ≤ n)
    (k : DW C N ops H0 b tg mk av Fin (i + 1) rest ⟨upd s.tm d (.lst row.es), s.H, s.nx⟩) :
    DW C N ops H0 b tg mk av Fin i (⟨some d, op, ty, ps, af, none⟩ :: rest) s := by
  refine ⟨.lst row.es, ⟨upd s.tm d (.lst row.es), s.H, s.nx⟩, rfl, ?_, k⟩
  rw [if_neg hi.1]
  refine ⟨none, rfl, rfl, .inl rfl, fun s' hx _ ht => ?_⟩
  exact one_buildL hC hN (stepA_mono (fun _ _ h => h) (fun x hx => congrArg pur (ev_congr ht x hx).symm) h) hp hn hlo
end
end Go.Pg

namespace Go.Pg
open Go Go.RowKit
section
variable {B0 : Nat} {S0 : Fr} {w w' : World} {H : Nat → Option AO} {σ : Sg}
theorem Inv.pushK (hi : Inv B0 S0 w H σ) {id : Nat} (hf : H id = none) (hB : B0 ≤ w.heap.size) {kt0 : MK} (hlv : kt0.live = true) {es0 : List (Key × AV)} {xs0 : Array MapEntry} (hkey : xs0.toList.map (·.key) = es0.map (fun e => e.1.val)) (hat : kt0.at (es0.map (·.1)) w.heap.size)
    (hv : RepL σ w (es0.map (·.2)) (fun i => (xs0[i]?).map (·.val))) :
    Le σ (σ.push w.heap.size id 0 0 0) w (w.alloc (kt0.obj xs0 0)) ∧ Inv B0 S0 (w.alloc (kt0.obj xs0 0)) (updH H id (.mp kt0 0 es0)) (σ.push w.heap.size id 0 0 0) := by
  have hle := hi.le_push (n := 0) (k := 0) (cap := 0) hf (kt0.obj xs0 0)
  have hS : ¬ σ.S w.heap.size := fun h => by have := (hi.S_lt _ h).1; omega
  have hheap : ∀ b, b < w.heap.size → (w.alloc (kt0.obj xs0 0)).heap[b]? = w.heap[b]? := fun b hb => Below.heap_alloc w _ b hb
  refine ⟨hle, fun i => ?_, fun i hn => ?_, fun b h => ⟨by have := (hi.S_lt b h).1; simp; omega, (hi.S_lt b h).2⟩, fun b i h => ?_, fun i r' h => ?_, fun i kt et es h => ?_, S0.mono _ _ _ _ hle hi.fr⟩
  · simp only [Sg.push, updH]
    by_cases e : i = id
    · simp [e]
    · simp [e, hi.al]
  · simp only [updH] at hn
    have e : i ≠ id := fun e => by simp [e] at hn
    rw [if_neg e] at hn
    obtain ⟨h1, h2⟩ := hi.fresh i hn
    refine ⟨by simp only [Sg.push]; rw [if_neg e]; exact h1, fun b hb => ?_⟩
    simp only [Sg.push] at hb
    split at hb
    · injection hb with hb; exact e hb.symm
    · exact h2 b hb
  · simp only [Sg.push] at h
    split at h
    · subst b; exact ⟨hB, by simp⟩
    · have := hi.own_lt b i h; exact ⟨this.1, by simp; omega⟩
  · simp only [updH] at h
    by_cases e : i = id
    · subst e; simp at h
    · rw [if_neg e] at h
      have hr := hi.row i r' h
      have hown : ∀ b, (σ.push w.heap.size id 0 0 0).own b = some i → σ.own b = some i ∧ b ≠ w.heap.size := fun b hb => by
        simp only [Sg.push] at hb
        split at hb
        · injection hb with hb; exact absurd hb.symm e
        · exact ⟨hb, by assumption⟩
      have hx : ∀ b, b ≠ w.heap.size → (σ.push w.heap.size id 0 0 0).ext b = σ.ext b := fun b hb => by simp only [Sg.push]; rw [if_neg hb]
      have hcx : (σ.push w.heap.size id 0 0 0).cur i = σ.cur i := by simp only [Sg.push]; rw [if_neg e]
      have hax : ∀ b, b ≠ w.heap.size → (σ.push w.heap.size id 0 0 0).cap b = σ.cap b := fun b hb => by simp only [Sg.push]; rw [if_neg hb]
      refine ⟨by simp only [Sg.push]; rw [if_neg e]; exact hr.len, by simp only [Sg.push]; rw [if_neg e]; exact hr.k, hr.each, hr.lo, fun b hb => ?_, fun hc => hr.empty (by rw [← hcx]; exact hc), fun b hb => ?_, fun b hb j h1 => ?_⟩
      · rw [hcx] at hb
        obtain ⟨a1, a2, a3, a4, ar, a5, a6⟩ := hr.cur b hb
        have hlt := (hi.own_lt b i a1).2
        exact ⟨by simp only [Sg.push]; rw [if_neg (by omega)]; exact a1, by rw [hx b (by omega)]; exact a2, by rw [hax b (by omega)]; exact a3, by rw [hax b (by omega)]; exact a4, ar, (hheap b hlt).trans a5, by rw [hax b (by omega)]; exact a6⟩
      · obtain ⟨h1, h2⟩ := hown b hb
        rw [hx b h2, hcx]; exact hr.own b h1
      · rw [hcx] at hb
        refine RepL.mono hle _ _ _ (fun m u hu => ?_) (hr.con b hb j h1)
        rw [cell_of_heap (w := w) (hheap b (hi.own_lt b i (hr.cur b hb).1).2)]; exact hu
  · simp only [updH] at h
    by_cases e : i = id
    · subst e
      rw [if_pos rfl] at h; injection h with h; injection h with h1 h2 h3; subst h1; subst h3
      refine ⟨by simp [Sg.push], ⟨w.heap.size, 0, xs0, by simp [Sg.push], by simp [Sg.push], ⟨fun _ => hS, fun h => (by rw [hlv] at h; cases h)⟩, World.alloc_heap_new w _, ⟨hkey, hat⟩, RepL.mono hle _ _ _ (fun _ _ h => h) hv⟩, fun b hb => ?_⟩
      simp only [Sg.push] at hb
      split at hb
      · rename_i he; subst he; exact ⟨by simp [Sg.push], by simp [Sg.push]⟩
      · exact absurd hb ((hi.fresh i hf).2 b)
    · rw [if_neg e] at h
      have hm := hi.mp i kt et es h
      obtain ⟨b, clock, xs, a1, a2, a3, a4, a5, a6⟩ := hm.cur
      have hlt := (hi.own_lt b i a2).2
      refine ⟨by simp only [Sg.push]; rw [if_neg e]; exact hm.len, ⟨b, clock, xs, by simp only [Sg.push]; rw [if_neg e]; exact a1, by simp only [Sg.push]; rw [if_neg (by omega)]; exact a2, a3, (hheap b hlt).trans a4, a5, RepL.mono hle _ _ _ (fun _ _ h => h) a6⟩, fun b hb => ?_⟩
      simp only [Sg.push] at hb
      split at hb
      · injection hb with hb; exact absurd hb.symm e
      · rename_i hne
        obtain ⟨h1, h2⟩ := hm.one b hb
        exact ⟨by simp only [Sg.push]; rw [if_neg e]; exact h1, by simp only [Sg.push]; rw [if_neg hne]; exact h2⟩
theorem Inv.turn (hi : Inv B0 S0 w H σ) {id l : Nat} {L : Loop} {es : List (Key × AV)} (hH : H id = some (.mp (.loop l L) 0 es)) :
    ∃ tmps : Array Value, w.heap[l]? = some (.loop { L with tmps := tmps }) ∧ tmps.size = es.length ∧ RepL σ w (es.map (·.2)) (fun i => tmps[i]?) ∧
      ∀ L' : Loop, Le σ σ w (w.putObj l (.loop { L' with tmps := tmps })) ∧ Inv B0 S0 (w.putObj l (.loop { L' with tmps := tmps })) (updH H id (.mp (.loop l L') 0 es)) σ ∧ Below B0 w (w.putObj l (.loop { L' with tmps := tmps })) := by
  have hm := hi.mp id _ _ _ hH
  obtain ⟨b, clock, xs, a1, a2, a3, a4, ⟨a5, a5'⟩, a6⟩ := hm.cur
  have hb : b = l := a5'
  subst hb
  have hlt := hi.own_lt b id a2
  have hl : xs.size = es.length := by have := congrArg List.length a5; simpa using this
  refine ⟨xs.map (fun e : MapEntry => e.val), a4, by simp [hl], ?_, fun L' => ?_⟩
  · refine RepL.congr (fun i _ => ?_) a6
    simp
  · have hoth : ∀ k, k ≠ b → (w.putObj b (.loop { L' with tmps := xs.map (·.val) })).heap[k]? = w.heap[k]? := fun k hk => World.putObj_heap_other hk
    have hr := hi.remap (w' := w.putObj b (.loop { L' with tmps := xs.map (·.val) })) (kt' := .loop b L') hH rfl rfl (fun _ h => h) (clock := clock) a1 (World.putObj_heap_same hlt.2) World.putObj_size hoth a5 a6
    exact ⟨hr.1, hr.2, rfl, rfl, rfl, by simp, fun k hk => hoth k (by omega)⟩
theorem Inv.shut (hi : Inv B0 S0 w H σ) {id l : Nat} {ds : Option (List Deferred)} {es : List (Key × AV)} (hH : H id = some (.mp (.dfr l ds) 0 es)) :
    w.heap[l]? = some (.deferred ds) ∧ ∀ ds' : Option (List Deferred), Le σ σ w (w.putObj l (.deferred ds')) ∧ Inv B0 S0 (w.putObj l (.deferred ds')) (updH H id (.mp (.dfr l ds') 0 es)) σ ∧ Below B0 w (w.putObj l (.deferred ds')) := by
  have hm := hi.mp id _ _ _ hH
  obtain ⟨b, clock, xs, a1, a2, a3, a4, ⟨a5, a5'⟩, a6⟩ := hm.cur
  have hb : b = l := a5'
  subst hb
  have hlt := hi.own_lt b id a2
  refine ⟨a4, fun ds' => ?_⟩
  have hoth : ∀ k, k ≠ b → (w.putObj b (.deferred ds')).heap[k]? = w.heap[k]? := fun k hk => World.putObj_heap_other hk
  have hr := hi.remap (w' := w.putObj b (.deferred ds')) (kt' := .dfr b ds') hH rfl rfl (fun _ h => h) (clock := clock) a1 (World.putObj_heap_same hlt.2) World.putObj_size hoth a5 a6
  exact ⟨hr.1, hr.2, rfl, rfl, rfl, by simp, fun k hk => hoth k (by omega)⟩
end
def keepT (N : Nat) (tm : Nat → AV) : List (Key × AV) := (List.range N).map fun t => (Key.str ByteArray.empty, tm t)
def keepX (tmps : Array Value) : Array MapEntry := tmps.map fun v => ⟨.string ByteArray.empty, v, 0⟩
theorem keepX_val (tmps : Array Value) : (keepX tmps).map (·.val) = tmps := by
  apply Array.ext
  · simp [keepX]
  · intro i h1 h2; simp [keepX]
theorem keepX_key (tmps : Array Value) {N : Nat} {tm : Nat → AV} (h : tmps.size = N) : (keepX tmps).toList.map (·.key) = (keepT N tm).map (fun e => e.1.val) := by
  apply List.ext_getElem
  · simp [keepX, keepT, h]
  · intro i h1 h2; simp [keepX, keepT, Key.val]
theorem keepX_rep {σ : Sg} {w : World} {tmps : Array Value} {N : Nat} {tm : Nat → AV} (h : tmps.size = N) (hr : ∀ t, Rep σ w (tm t) (tmps.getD t undef)) : RepL σ w ((keepT N tm).map (·.2)) (fun i => ((keepX tmps)[i]?).map (·.val)) := by
  rw [repL_iff]
  intro i hi
  have hi' : i < tmps.size := by simpa [keepT, h] using hi
  refine ⟨tmps[i], by simp [keepX, hi'], ?_⟩
  have := hr i
  simp only [keepT, List.map_map, List.getElem_map, List.getElem_range, Function.comp]
  rwa [Array.getD_eq_getD_getElem?, Array.getElem?_eq_getElem hi'] at this
theorem keepT_length (N : Nat) (tm : Nat → AV) : (keepT N tm).length = N := by simp [keepT]
def cutT (N : Nat) (tm : Nat → AV) : Nat → AV := fun t => if t < N then tm t else .junk
def tmP (tm : Nat → AV) : List (Nat × AV) → Nat → AV
  | [] => tm
  | (p, x) :: r => tmP (upd tm p x) r
theorem keepT_rep {σ : Sg} {w : World} {tmps : Array Value} {N : Nat} {tm : Nat → AV} (hs : tmps.size = N) (hr : RepL σ w ((keepT N tm).map (·.2)) (fun i => tmps[i]?)) (t : Nat) : Rep σ w (cutT N tm t) (tmps.getD t undef) := by
  unfold cutT
  split
  · rename_i ht
    rw [repL_iff] at hr
    obtain ⟨u, hu, h⟩ := hr t (by simpa [keepT] using ht)
    rw [Array.getD_eq_getD_getElem?, hu]
    simpa [keepT] using h
  · trivial
theorem tmP_rep {σ : Sg} {w : World} : ∀ (pv : List (Nat × Value)) (pa : List (Nat × AV)) (tmps : Array Value) (tm : Nat → AV), (∀ t, Rep σ w (tm t) (tmps.getD t undef)) → pv.length = pa.length → (∀ p ∈ pv, p.1 < tmps.size) →
    (∀ (i : Nat) (h : i < pv.length) (h' : i < pa.length), pv[i].1 = pa[i].1 ∧ Rep σ w pa[i].2 pv[i].2) → ∀ t, Rep σ w (tmP tm pa t) ((pv.foldl (fun tmps x => tmps.setIfInBounds x.1 x.2) tmps).getD t undef)
  | [], [], tmps, tm, h, _, _, _ => h
  | (p, v) :: pv, (q, x) :: pa, tmps, tm, h, hl, hb, hr => by
    intro t
    simp only [List.foldl_cons, tmP]
    have h0 := hr 0 (by simp) (by simp)
    simp only [List.getElem_cons_zero] at h0
    obtain ⟨h0, h1⟩ := h0
    subst h0
    refine tmP_rep pv pa _ _ (fun u => ?_) (by simpa using hl) (fun y hy => by simpa using hb y (by simp [hy])) (fun i hi hi' => ?_) t
    · rw [getD_set _ _ _ _ (hb (p, v) (by simp))]
      unfold upd
      split
      · exact h1
      · exact h u
    · have := hr (i + 1) (by simp; omega) (by simp; omega)
      simpa using this
  | [], _ :: _, _, _, _, hl, _, _ => by simp at hl
  | _ :: _, [], _, _, _, hl, _, _ => by simp at hl
def YOK (C : Cx) (l : Nat) (args : List AV) (H : Nat → Option AO) (nx : Nat) (Q : Bool → (Nat → Option AO) → Nat → Prop) : Prop :=
  ∀ (S0 : Fr) (w0 w : World) (σ : Sg) (vals : Array Value), C.E w0 → Inv w0.heap.size S0 w H σ → (∀ id, nx ≤ id → H id = none) → Below w0.heap.size w0 w → vals.size = args.length → RepL σ w args (fun i => vals[i]?) →
    ∃ f tmps assign body, (Instr.yield l vals).run C.P w = .ok (.round l f tmps assign body) w ∧ RoundIn Fence.wide 0 C.P l f tmps assign body w fun e w' =>
      ∃ b σ' H' nx', e = .returned (.bool b) ∧ Q b H' nx' ∧ Below w0.heap.size w0 w' ∧ Inv w0.heap.size S0 w' H' σ' ∧ (∀ id, nx' ≤ id → H' id = none) ∧ Le σ σ' w w'
def Cx.rnd (C : Cx) (l : Nat) : Cx := { C with F' := ⟨Fence.wide.inRound l, .inr ⟨l, rfl⟩⟩ }
def roundQ (id l : Nat) (L : Loop) (es : List (Key × AV)) (Q : Bool → (Nat → Option AO) → Nat → Prop) : Exit → St → Prop
  | .normal, s => s.H id = some (.mp (.loop l { L with state := .busy }) 0 es) ∧ Q true (updH s.H id (.mp (.loop l { L with state := .ready, pending := none }) 0 es)) s.nx
  | .ret, s => s.H id = some (.mp (.loop l { L with state := .busy }) 0 es) ∧ Q false (updH s.H id (.mp (.loop l { L with state := .done, pending := some .ret }) 0 es)) s.nx
  | .exit i, s => s.H id = some (.mp (.loop l { L with state := .busy }) 0 es) ∧ Q false (updH s.H id (.mp (.loop l { L with state := .done, pending := some (.exit i) }) 0 es)) s.nx
  | _, _ => False
theorem updH_nx {H : Nat → Option AO} {id nx : Nat} {o : AO} (h : ∀ i, nx ≤ i → H i = none) (hid : H id ≠ none) : ∀ i, nx ≤ i → updH H id o i = none := fun i hi => by
  simp only [updH]
  split
  · rename_i e; subst e; exact absurd (h i hi) hid
  · exact h i hi
theorem YOK.of_body {C : Cx} {l id : Nat} {L : Loop} {tm : Nat → AV} {N : Nat} {H : Nat → Option AO} {nx : Nat} {args : List AV} {Q : Bool → (Nat → Option AO) → Nat → Prop}
    (hH : H id = some (.mp (.loop l L) 0 (keepT N tm))) (hst : L.state = .ready) (hp : L.params.size = args.length) (hpN : ∀ p ∈ L.params.toList, p < N)
    (h : AW (C.rnd l) N L.assign (fun e s1 => match e with
      | .normal => s1.H id = some (.mp (.loop l L) 0 (keepT N tm)) ∧ AW (C.rnd l) N L.body (roundQ id l L (keepT N tm) Q) { s1 with H := updH s1.H id (.mp (.loop l { L with state := .busy }) 0 (keepT N tm)) }
      | _ => False) { tm := tmP (cutT N tm) (L.params.toList.zip args), H := H, nx := nx }) : YOK C l args H nx Q := by
  intro S0 w0 w σ vals hE hi hnx hbel hsz hrep
  obtain ⟨tmps, b1, b2, b3, b4⟩ := hi.turn hH
  rw [keepT_length] at b2
  refine ⟨_, _, _, _, run_yield b1 (by rw [hsz]; exact hp.symm), ?_⟩
  refine roundIn_of_wpIn trivial ?_
  have hfold : (L.params.zip vals).foldl (fun tmps (t, a) => tmps.setIfInBounds t a) tmps = (L.params.toList.zip vals.toList).foldl (fun tmps x => tmps.setIfInBounds x.1 x.2) tmps := by
    rw [← Array.foldl_toList, Array.toList_zip]
  have hs : Sim (S0.from σ w) w0 N { tmps := (L.params.zip vals).foldl (fun tmps (t, a) => tmps.setIfInBounds t a) tmps, defers := [] } w { tm := tmP (cutT N tm) (L.params.toList.zip args), H := H, nx := nx } := by
    have hsize : ∀ (pv : List (Nat × Value)) (tmps : Array Value), (pv.foldl (fun tmps x => tmps.setIfInBounds x.1 x.2) tmps).size = tmps.size := by
      intro pv
      induction pv with
      | nil => intro t; rfl
      | cons p pv ih => intro t; simp only [List.foldl_cons]; rw [ih]; simp
    refine ⟨σ, hi.from, hnx, fun t => ?_, ?_, rfl, hbel⟩
    · show Rep σ w _ (((L.params.zip vals).foldl (fun tmps (t, a) => tmps.setIfInBounds t a) tmps).getD t undef)
      rw [hfold]
      refine tmP_rep _ _ _ _ (keepT_rep b2 b3) ?_ ?_ ?_ t
      · simp [hsz]
      · intro p hp
        rw [b2]
        exact hpN _ (List.of_mem_zip hp).1
      · intro i h1 h2
        simp only [List.length_zip] at h1 h2
        have hia : i < args.length := by omega
        rw [repL_iff] at hrep
        obtain ⟨u, hu, hr⟩ := hrep i hia
        have hiv : i < vals.size := by omega
        rw [Array.getElem?_eq_getElem hiv] at hu
        injection hu with hu
        subst hu
        exact ⟨by simp, by simpa using hr⟩
    · show ((L.params.zip vals).foldl (fun tmps (t, a) => tmps.setIfInBounds t a) tmps).size = N
      rw [hfold, hsize, b2]
  have h2 := h (S0.from σ w) w0 _ w hE hs
  refine wpIn_mono (show L.assign.wpIn (Fence.wide.inRound l) 0 C.P _ _ _ from h2) ?_
  rintro e a1 w1 ⟨s1, hs1, hq⟩
  cases e <;> try exact hq.elim
  obtain ⟨hH1, hq⟩ := hq
  obtain ⟨σ1, hs1⟩ := hs1
  obtain ⟨tmps1, c1, c2, c3, c4⟩ := hs1.inv.turn hH1
  obtain ⟨d1, d2, d3⟩ := c4 { L with state := .busy }
  refine ⟨_, run_beginRound c1 hst, ?_⟩
  have h3 := hq (S0.from σ w) w0 a1 _ hE ⟨σ1, d2, updH_nx hs1.nx (by rw [hH1]; simp), fun t => Rep.mono d1 _ _ (hs1.tm t), hs1.N, hs1.d, hs1.below.trans d3⟩
  refine wpIn_mono (show L.body.wpIn (Fence.wide.inRound l) 0 C.P _ _ _ from h3) ?_
  rintro e a2 w2 ⟨s2, ⟨σ2, hs2⟩, hq2⟩
  have fin : ∀ jump : Option Code, s2.H id = some (.mp (.loop l { L with state := .busy }) 0 (keepT N tm)) → Q jump.isNone (updH s2.H id (.mp (.loop l { L with state := if jump.isNone then .ready else .done, pending := jump }) 0 (keepT N tm))) s2.nx →
      ∃ v w', (Instr.endRound l jump).run C.P w2 = .ok v w' ∧ ∃ b σ' H' nx', Ending.returned v = .returned (.bool b) ∧ Q b H' nx' ∧ Below w0.heap.size w0 w' ∧ Inv w0.heap.size S0 w' H' σ' ∧ (∀ id, nx' ≤ id → H' id = none) ∧ Le σ σ' w w' := by
    intro jump hH2 hq
    obtain ⟨tmps2, e1, e2, e3, e4⟩ := hs2.inv.turn hH2
    obtain ⟨f1, f2, f3⟩ := e4 { L with state := if jump.isNone then .ready else .done, pending := jump }
    obtain ⟨g1, g2⟩ := f2.unfrom
    exact ⟨_, _, run_endRound jump e1, jump.isNone, σ2, _, s2.nx, rfl, hq, hs2.below.trans f3, g1, updH_nx hs2.nx (by rw [hH2]; simp), g2⟩
  cases e with
  | normal => exact fin none hq2.1 hq2.2
  | ret => exact fin (some .ret) hq2.1 hq2.2
  | exit i => exact fin (some (.exit i)) hq2.1 hq2.2
  | goto t => exact hq2.elim
  | panic c => exact hq2.elim
  | outgrown => exact hq2.elim
section
variable {C : Cx} {N : Nat} {Q : Exit → St → Prop} {s : St} {ops : Array Oper} {rest : List Oper} {o : Oper}
theorem AWL.yield (hg : o.guard = none) {d : Nat} (hd : o.dst = some d) (hN : d < N) {fo : Operand} {args : Array Operand} {tys : Array TypeId} (ho : o.op = .call { callee := .value fo, args := args, argTypes := tys })
    {l : Nat} (hf : s.ev fo = .v (.func (.yield l) #[] #[])) {Qr : Bool → (Nat → Option AO) → Nat → Prop} (hok : YOK C l (evsA args.toList s.ev) s.H s.nx Qr)
    (k : ∀ b H' nx', Qr b H' nx' → AWL C N ops Q rest { tm := upd s.tm d (.v (.bool b)), H := H', nx := nx' }) : AWL C N ops Q (o :: rest) s := by
  rintro S0 w0 a w hE ⟨σ, hσ⟩
  have hfo := hσ.ev fo
  rw [hf] at hfo
  simp only [Rep] at hfo
  have hargs : RepL σ w (evsA args.toList s.ev) (fun i => (args.map a.eval)[i]?) := repL_evs (σ := σ) (w := w) (fun x => hσ.ev x) args
  obtain ⟨f, tmps, assign, body, hy, hr⟩ := hok S0 w0 w σ (args.map a.eval) hE hσ.inv hσ.nx hσ.below (by simp [evsA_map]) hargs
  refine wpListIn_plain hg fun K hK => ?_
  refine ⟨fun f _ => C.hF.fn f, ?_⟩
  have hs : o.semAt C.F.round a.eval = execOp a.eval o := by
    cases hr : C.F.round with
    | none => rfl
    | some l => exact Oper.semAt_some l _ o (fun c e => by rw [ho] at e; cases e)
  rw [hs]
  have hexec : (execOp a.eval o).run C.P w = .ok (.round l f tmps assign body) w := by
    simp only [execOp, ho, resolve, hfo, Deferred.ofValue, Sem.run_bind, Sem.run_pure, Result.andThen_ok, invoke]
    simpa using hy
  rw [hexec, Oper.uponIn_round]
  refine ⟨fun hq => (by rw [C.hF.depth] at hq; cases hq), C.hF.roundIn.2 (RoundIn.mono hr ?_)⟩
  rintro e w' ⟨b, σ', H', nx', rfl, hQ, hb, hi', hn', hle⟩
  dsimp only
  rw [hd]
  refine hK _ _ (k b H' nx' hQ S0 w0 _ w' hE ⟨σ', hi', hn', fun t => ?_, by simp [Act.put, hσ.N], hσ.d, hb⟩)
  simp only [Act.put]
  rw [getD_set _ _ _ _ (by rw [hσ.N]; exact hN)]
  show Rep σ' w' (upd s.tm d _ t) _
  unfold upd
  split
  · exact rfl
  · exact Rep.mono hle _ _ (hσ.tm t)
end
end Go.Pg
