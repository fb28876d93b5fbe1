/-
  Contracts of functions, proved by going through their code. No conditions.
-/
import Derived.Test.YtdlflcambboojaaMaa
import Derived.Test.YtdlflcambboojaaN18KlW
import Derived.Test.YtdlflcambboojaaN18KlX
set_option linter.unusedVariables false
set_option linter.unusedSimpArgs false
namespace Go.Proofs.Ks
open Go Go.Pg Go.Proofs
structure Pf (L : List Lk) (n s : Nat) (d b : List Int) (t : Nat → Nat) (T : Nat) : Prop where
  lend : d.length = n
  lenb : b.length = n
  old : ∀ v, v < n → t v = 0 → v = s ∨ ¬ d.getD v 0 < far
  now : ∀ v, t v ≤ T
  par : ∀ v, v < n → 0 < t v → (0 ≤ b.getD v 0 ∧ b.getD v 0 < (L.length : Int)) ∧ (lkAt L (b.getD v 0)).b = v ∧ d.getD (lkAt L (b.getD v 0)).a 0 < far ∧
    (d.getD (lkAt L (b.getD v 0)).a 0 + (lkAt L (b.getD v 0)).m < d.getD v 0 ∨ (d.getD (lkAt L (b.getD v 0)).a 0 + (lkAt L (b.getD v 0)).m = d.getD v 0 ∧ t (lkAt L (b.getD v 0)).a < t v))
section
variable {L : List Lk} {n s : Nat} {d b : List Int} {t : Nat → Nat} {T : Nat} {B : Int}
theorem Pf.relax (h : Pf L n s d b t T) {k : Nat} {l : Lk} (hl : L[k]? = some l) (ha : l.a < n) (hb : l.b < n) (hne : l.a ≠ l.b) (hi : Imp d l) :
    Pf L n s (d.set l.b (d.getD l.a 0 + l.m)) (b.set l.b (k : Int)) (fun v => if v = l.b then T + 1 else t v) (T + 1) := by
  have hbd : l.b < d.length := by rw [h.lend]; exact hb
  have hbb : l.b < b.length := by rw [h.lenb]; exact hb
  have hkl : k < L.length := (List.getElem?_eq_some_iff.1 hl).1
  have hlk := lkAt_nat hl
  have hd : ∀ v, (d.set l.b (d.getD l.a 0 + l.m)).getD v 0 = if l.b = v then d.getD l.a 0 + l.m else d.getD v 0 := fun v => getD_set hbd
  have hb' : ∀ v, (b.set l.b (k : Int)).getD v 0 = if l.b = v then (k : Int) else b.getD v 0 := fun v => getD_set hbb
  have hmon : ∀ v, (d.set l.b (d.getD l.a 0 + l.m)).getD v 0 ≤ d.getD v 0 := fun v => by
    rw [hd]; split
    · rename_i e; subst e; have := hi.2; omega
    · exact Int.le_refl _
  have hda : (d.set l.b (d.getD l.a 0 + l.m)).getD l.a 0 = d.getD l.a 0 := by rw [hd, if_neg (fun e => hne e.symm)]
  refine ⟨by simp [h.lend], by simp [h.lenb], fun v hv ht => ?_, fun v => ?_, fun v hv ht => ?_⟩
  · by_cases e : v = l.b
    · rw [if_pos e] at ht; omega
    · rw [if_neg e] at ht
      rw [hd, if_neg (fun x => e x.symm)]
      exact h.old v hv ht
  · have := h.now v
    split <;> omega
  · rw [hb']
    by_cases e : l.b = v
    · subst e
      rw [if_pos rfl, hlk, hda, hd, if_pos rfl]
      refine ⟨⟨by omega, by omega⟩, rfl, hi.1, .inr ⟨rfl, ?_⟩⟩
      rw [if_neg hne, if_pos rfl]
      have := h.now l.a; omega
    · rw [if_neg (fun x => e x.symm)] at ht
      rw [if_neg e, hd v, if_neg e]
      obtain ⟨p1, p2, p3, hp⟩ := h.par v hv ht
      obtain ⟨Y, hY⟩ : ∃ z, lkAt L (b.getD v 0) = z := ⟨_, rfl⟩
      rw [hY] at p2 p3 hp ⊢
      refine ⟨p1, p2, ?_, ?_⟩
      · have := hmon Y.a; omega
      · by_cases ea : l.b = Y.a
        · have h1 := hi.2
          rw [hd, if_pos ea]
          rw [← ea] at hp
          exact .inl (by omega)
        · rw [hd, if_neg ea, if_neg (fun x => ea x.symm), if_neg (fun x => e x.symm)]
          exact hp
theorem Pf.round (hL : ∀ l ∈ L, l.a < n ∧ l.b < n) (hne : ∀ l ∈ L, l.a ≠ l.b) : ∀ (S : List Lk) (k : Nat) (p : BS) (t : Nat → Nat) (T : Nat), L.drop k = S → Pf L n s p.1 p.2.1 t T → ∃ t' T', Pf L n s (roundF S k p).1 (roundF S k p).2.1 t' T'
  | [], k, p, t, T, _, h => ⟨t, T, h⟩
  | l :: S, k, p, t, T, hS, h => by
    obtain ⟨hl, hd⟩ := drop_getL hS
    have hm := List.mem_of_getElem? hl
    unfold roundF Ks.relax
    by_cases hi : Imp p.1 l
    · rw [if_pos hi]
      exact Pf.round hL hne S (k + 1) _ _ _ hd (h.relax hl (hL l hm).1 (hL l hm).2 (hne l hm) hi)
    · rw [if_neg hi]
      exact Pf.round hL hne S (k + 1) _ _ _ hd h
theorem Pf.loop (hL : ∀ l ∈ L, l.a < n ∧ l.b < n) (hne : ∀ l ∈ L, l.a ≠ l.b) : ∀ (c : Nat) (d b : List Int) (t : Nat → Nat) (T : Nat), Pf L n s d b t T → (loopF L c d b).2.2 < 0 → ∃ t' T', Pf L n s (loopF L c d b).1 (loopF L c d b).2.1 t' T'
  | 0, d, b, t, T, h, hq => by
    unfold loopF at hq ⊢
    rcases last_case L 0 d b with ⟨e, _⟩ | ⟨j, l, _, _, e⟩
    · rw [e]; exact ⟨t, T, h⟩
    · rw [e] at hq
      have : (0 : Int) ≤ (l.b : Int) := Int.natCast_nonneg _
      exact absurd hq (by dsimp only; omega)
  | c + 1, d, b, t, T, h, hq => by
    obtain ⟨t', T', h'⟩ := Pf.round hL hne L 0 (d, b, -1) t T rfl h
    unfold loopF at hq ⊢
    by_cases hs : (roundF L 0 (d, b, -1)).2.2 < 0
    · rw [if_pos hs]; exact ⟨t', T', h'⟩
    · rw [if_neg hs] at hq ⊢
      exact Pf.loop hL hne c _ _ t' T' h' hq
theorem Pf.start (L : List Lk) (n s : Nat) : Pf L n s (initF n (s : Int)) (List.replicate n (-1)) (fun _ => 0) 0 := by
  refine ⟨by simp [initF], by simp, fun v hv _ => ?_, fun v => Nat.le_refl _, fun v _ h => absurd h (by decide)⟩
  rw [init_get n _ hv]
  by_cases e : v = s
  · exact .inl e
  · rw [if_pos ⟨Int.natCast_nonneg _, by omega⟩]
    exact .inr (by decide)
theorem lengths_tree (hL : ∀ l ∈ L, l.a < n ∧ l.b < n) (hne : ∀ l ∈ L, l.a ≠ l.b) (hB0 : 0 ≤ B) (hB : ∀ l ∈ L, -B ≤ l.m ∧ l.m ≤ B) (hfar : B * (n : Int) < far) (hn : NoNeg L) (s : Nat) :
    (∃ t T, Pf L n s (lengthsF n L (s : Int)).1 (lengthsF n L (s : Int)).2.1 t T) ∧ ∀ l ∈ L, ¬ Imp (lengthsF n L (s : Int)).1 l := by
  rcases lengths_spec hL hB0 hB hfar (s : Int) with ⟨h1, _, h3⟩ | ⟨_, h2⟩
  · refine ⟨?_, h3⟩
    unfold lengthsF at h1 ⊢
    exact Pf.loop hL hne n _ _ _ 0 (Pf.start L n s) h1
  · exact absurd hn h2
theorem Pf.back (h : Pf L n s d b t T) (hL : ∀ l ∈ L, l.a < n ∧ l.b < n) (hst : ∀ l ∈ L, ¬ Imp d l) {v : Nat} (hv : v < n) (ht : 0 < t v) :
    (0 ≤ b.getD v 0 ∧ b.getD v 0 < (L.length : Int)) ∧ (lkAt L (b.getD v 0)).b = v ∧ (lkAt L (b.getD v 0)).a < n ∧ d.getD (lkAt L (b.getD v 0)).a 0 < far ∧ d.getD (lkAt L (b.getD v 0)).a 0 + (lkAt L (b.getD v 0)).m = d.getD v 0 ∧ t (lkAt L (b.getD v 0)).a < t v := by
  obtain ⟨p1, p2, p3, p4⟩ := h.par v hv ht
  have hm := (lkAt_get p1).2.2
  have h1 := hst _ hm
  unfold Imp at h1
  rw [p2] at h1
  refine ⟨p1, p2, (hL _ hm).1, p3, ?_, ?_⟩ <;> omega
theorem Pf.src (h : Pf L n s d b t T) (hL : ∀ l ∈ L, l.a < n ∧ l.b < n) (hst : ∀ l ∈ L, ¬ Imp d l) : ∀ (c v : Nat), t v ≤ c → v < n → d.getD v 0 < far → t s = 0
  | c, v, hc, hv, hd => by
    by_cases ht : t v = 0
    · rcases h.old v hv ht with e | e
      · rw [← e]; exact ht
      · exact absurd hd e
    · obtain ⟨_, _, q1, q2, _, q3⟩ := h.back hL hst hv (by omega)
      match c, hc with
      | 0, hc => omega
      | c + 1, hc => exact h.src hL hst c _ (by omega) q1 q2
theorem sumB_in (L : List Lk) (b : List Int) (v : Nat) : ∀ m, sumB L b v (m + 1) = (lkAt L (b.getD v 0)).m + sumB L b (lkAt L (b.getD v 0)).a m
  | 0 => by simp [sumB, gB, itB]
  | m + 1 => by
    have ih := sumB_in L b v m
    have e : gB L b v (m + 1) = gB L b (lkAt L (b.getD v 0)).a m := by unfold gB; rw [itB_in]
    show sumB L b v (m + 1) + (lkAt L (gB L b v (m + 1))).m = _
    rw [ih, e]
    simp only [sumB]
    omega
theorem Pf.chain (h : Pf L n s d b t T) (hL : ∀ l ∈ L, l.a < n ∧ l.b < n) (hst : ∀ l ∈ L, ¬ Imp d l) (hs0 : t s = 0) : ∀ (c v : Nat), t v ≤ c → v < n → d.getD v 0 < far →
    ∃ m, itB L b v m = s ∧ d.getD s 0 + sumB L b v m = d.getD v 0 ∧ ∀ j, j < m → itB L b v j < n ∧ 0 < t (itB L b v j) ∧ t (itB L b v (j + 1)) < t (itB L b v j)
  | c, v, hc, hv, hd => by
    by_cases ht : t v = 0
    · rcases h.old v hv ht with e | e
      · subst e
        exact ⟨0, rfl, by simp [sumB], fun j hj => by omega⟩
      · exact absurd hd e
    · obtain ⟨p1, p2, q1, q2, q4, q3⟩ := h.back hL hst hv (by omega)
      match c, hc with
      | 0, hc => omega
      | c + 1, hc =>
        obtain ⟨m, m1, m2, m3⟩ := h.chain hL hst hs0 c _ (by omega) q1 q2
        refine ⟨m + 1, by rw [← itB_in]; exact m1, by rw [sumB_in]; omega, fun j hj => ?_⟩
        cases j with
        | zero => exact ⟨hv, by show 0 < t v; omega, q3⟩
        | succ j =>
          have := m3 j (by omega)
          rw [itB_in, itB_in] at this
          exact this
end
def pathC (L : List Lk) (b : List Int) (s : Int) : Nat → Int → List Int → Option (List Int)
  | 0, v, o => if v = s then some o else none
  | f + 1, v, o => if v = s then some o else if okB L b v = true then pathC L b s f ((lkAt L (b.getD v.toNat 0)).a : Int) (o ++ [b.getD v.toNat 0]) else none
theorem path_chain {L : List Lk} {b : List Int} {c m s : Nat} (hok : ∀ j, j < m → okB L b (itB L b c j : Nat) = true) (hm : itB L b c m = s) (hmin : ∀ u, u < m → itB L b c u ≠ s) : ∀ (f j : Nat) (o : List Int), j ≤ m → m ≤ j + f →
    pathC L b (s : Int) f ((itB L b c j : Nat) : Int) o = some (o ++ (List.range' j (m - j)).map (gB L b c))
  | 0, j, o, hj, hf => by
    obtain rfl : j = m := by omega
    unfold pathC
    rw [hm, if_pos rfl, Nat.sub_self]
    simp
  | f + 1, j, o, hj, hf => by
    unfold pathC
    by_cases e : j = m
    · subst e
      rw [hm, if_pos rfl, Nat.sub_self]
      simp
    · have hne := hmin j (by omega)
      rw [if_neg (by omega), if_pos (hok j (by omega)), Int.toNat_natCast]
      have hst : (lkAt L (b.getD (itB L b c j) 0)).a = itB L b c (j + 1) := rfl
      rw [hst, path_chain hok hm hmin f (j + 1) _ (by omega) (by omega), show m - j = (m - (j + 1)) + 1 by omega, List.range'_succ, List.map_cons, List.append_assoc]
      rfl
theorem path_tree {L : List Lk} {n : Nat} {B : Int} (hL : ∀ l ∈ L, l.a < n ∧ l.b < n) (hne : ∀ l ∈ L, l.a ≠ l.b) (hB0 : 0 ≤ B) (hB : ∀ l ∈ L, -B ≤ l.m ∧ l.m ≤ B) (hfar : B * (n : Int) < far) (hn : NoNeg L) (hn100 : n ≤ 100)
    {s v : Nat} (hs : s < n) (hv : v < n) (hd : (lengthsF n L (s : Int)).1.getD v 0 < far) :
    ∃ OUT, pathC L (lengthsF n L (s : Int)).2.1 (s : Int) 1000 (v : Int) [] = some OUT ∧ walkF L OUT.reverse (s : Int) 0 = ((v : Int), (lengthsF n L (s : Int)).1.getD v 0, true) ∧ (∀ q ∈ OUT.reverse, 0 ≤ q ∧ q < (L.length : Int)) ∧ (OUT.reverse.map fun q => (lkAt L q).b).Nodup ∧ OUT.length ≤ n ∧ (s = v → OUT = []) := by
  obtain ⟨⟨t, T, h⟩, hst⟩ := lengths_tree hL hne hB0 hB hfar hn s
  have hdist := lengths_dist hL hB0 hB hfar hn (s : Int)
  have d0 : (lengthsF n L (s : Int)).1.getD s 0 = 0 := by
    have h1 := hdist.low s [] s ⟨hs, .inr rfl⟩ rfl
    have h1' : (lengthsF n L (s : Int)).1.getD s 0 ≤ 0 := h1
    have hf : (0 : Int) < far := by decide
    obtain ⟨z, p, hz, hw, hp⟩ := hdist.real s hs (by omega)
    have hz' : z = s := by have := hz.2; omega
    subst hz'
    have := hn z p hw
    omega
  obtain ⟨d, hdd⟩ : ∃ z, (lengthsF n L (s : Int)).1 = z := ⟨_, rfl⟩
  obtain ⟨b, hbb⟩ : ∃ z, (lengthsF n L (s : Int)).2.1 = z := ⟨_, rfl⟩
  rw [hdd] at h hst d0 hd ⊢
  rw [hbb] at h ⊢
  have hs0 := h.src hL hst (t v) v (Nat.le_refl _) hv hd
  obtain ⟨m, m1, m2, m3⟩ := h.chain hL hst hs0 (t v) v (Nat.le_refl _) hv hd
  have hmono : ∀ i j, i < j → j ≤ m → t (itB L b v j) < t (itB L b v i) := by
    intro i j hij
    induction j with
    | zero => omega
    | succ j ih =>
      intro hjm
      have h1 := (m3 j (by omega)).2.2
      by_cases e : i = j
      · subst e; exact h1
      · have := ih (by omega) (by omega); omega
  have hbk : ∀ j, j < m → _ := fun j hj => h.back hL hst (m3 j hj).1 (m3 j hj).2.1
  have hok : ∀ j, j < m → okB L b (itB L b v j : Nat) = true := fun j hj => by
    obtain ⟨p1, _⟩ := hbk j hj
    have := (m3 j hj).1
    unfold okB
    rw [Int.toNat_natCast, h.lenb]
    simp only [Bool.and_eq_true, decide_eq_true_eq]
    exact ⟨by omega, by omega, p1⟩
  have hmin : ∀ u, u < m → itB L b v u ≠ s := fun u hu e => by
    have := (m3 u hu).2.1
    rw [e] at this; omega
  have hle : m ≤ n := by
    have hnd : ((List.range m).map (itB L b v)).Nodup := by
      refine List.pairwise_map.2 (List.Pairwise.imp_of_mem (fun {i j} hi hj hij e => ?_) List.pairwise_lt_range)
      rw [List.mem_range] at hi hj
      have := hmono i j hij (by omega)
      rw [e] at this; omega
    have := pigeon n _ (fun y hy => by
      obtain ⟨j, hj, rfl⟩ := List.mem_map.1 hy
      rw [List.mem_range] at hj
      exact (m3 j hj).1) hnd
    rwa [List.length_map, List.length_range] at this
  have hpc := path_chain hok m1 hmin 1000 0 [] (Nat.zero_le _) (by omega)
  have hin : ∀ j, j < m → (0 ≤ gB L b v j ∧ gB L b v j < (L.length : Int)) ∧ (lkAt L (gB L b v j)).b = itB L b v j := fun j hj => by
    obtain ⟨p1, p2, _⟩ := hbk j hj
    exact ⟨p1, p2⟩
  have hwk := walk_chain hin m 0 (Nat.le_refl _)
  rw [m1] at hwk
  refine ⟨(List.range' 0 m).map (gB L b v), by rw [Nat.sub_zero, List.nil_append] at hpc; exact hpc, ?_, ?_, ?_, ?_, ?_⟩
  · rw [hwk]
    show ((v : Int), 0 + sumB L b v m, true) = _
    rw [show 0 + sumB L b v m = d.getD v 0 by omega]
  · intro q hq
    rw [List.mem_reverse] at hq
    obtain ⟨j, hj, rfl⟩ := List.mem_map.1 hq
    rw [List.mem_range'_1] at hj
    exact (hin j (by omega)).1
  · rw [List.map_reverse, List.map_map]
    refine List.pairwise_reverse.2 (List.pairwise_map.2 (List.Pairwise.imp_of_mem (fun {x y} hx hy hxy e0 => ?_) List.pairwise_lt_range'))
    have e := e0.symm
    rw [List.mem_range'_1] at hx hy
    have ex := (hin x (by omega)).2
    have ey := (hin y (by omega)).2
    have e' : itB L b v x = itB L b v y := by rw [← ex, ← ey]; exact e
    have := hmono x y hxy (by omega)
    rw [e'] at this; omega
  · rw [List.length_map, List.length_range']; exact hle
  · intro e
    subst e
    have : m = 0 := by
      rcases Nat.eq_zero_or_pos m with h0 | h0
      · exact h0
      · exact absurd rfl (hmin 0 h0)
    subst this
    rfl
end Go.Proofs.Ks
