/-
  Contracts of functions, proved by going through their code. No conditions.
-/
import Derived.Test.YtmcchoalekmklaaGreatZat
import Derived.Test.YtmcchoalekmklaaGreatZau
import Derived.Test.YtmcchoalekmklaaGreatZav
import Derived.Test.YtmcchoalekmklaaGreatZbg
import Derived.Test.YtmcchoalekmklaaGreatZbh
import Derived.Test.YtmcchoalekmklaaGreatZbi
set_option linter.unusedVariables false
set_option linter.unusedSimpArgs false
namespace Go.Proofs.Ks
open Go Go.Pg Go.Proofs Go.Proofs.Yt
theorem sumT_nn : ∀ {l : List Leg}, (∀ y ∈ l, legB y = true) → 0 ≤ sumT l
  | [], _ => Int.le_refl 0
  | y :: l, hl => by
    have h1 := (leg_bd (hl y (by simp))).1
    have h2 := sumT_nn (l := l) fun z hz => hl z (List.mem_cons_of_mem _ hz)
    simp only [sumT]; omega
theorem need_bd : ∀ {l : List Leg} {F P : Int}, (∀ y ∈ l, legB y = true) → 0 ≤ F → F ≤ sumT l → P ≤ needF l F P ∧ needF l F P ≤ P + sumP l
  | [], F, P, _, _, _ => by simp only [needF, sumP]; omega
  | y :: l, F, P, hl, h0, h1 => by
    obtain ⟨y1, y2, y3, y4, y5, y6⟩ := leg_bd (hl y (by simp))
    have hnn := sumT_nn (l := l) fun z hz => hl z (List.mem_cons_of_mem _ hz)
    unfold needF
    simp only [sumT] at h1
    simp only [sumP]
    have ih := need_bd (l := l) (F := F - min F y.secs) (P := P + min F y.secs * y.rate) (fun z hz => hl z (List.mem_cons_of_mem _ hz)) (by omega) (by omega)
    have m1 : 0 ≤ min F y.secs * y.rate := Int.mul_nonneg (by omega) y3
    have m2 : min F y.secs * y.rate ≤ y.secs * y.rate := Int.mul_le_mul_of_nonneg_right (by omega) y3
    omega
theorem needle_in {s : Session} {x : Run} {t a : Int} (hp : playsE s x = 0) (hn : needleP x t = (a, 0)) : s.zero.lo ≤ a ∧ a ≤ s.fin.hi ∧ 0 ≤ t ∧ t ≤ 1073741823 ∧ 0 ≤ a ∧ a ≤ 43199 := by
  obtain ⟨hx, hr, hb, _⟩ := playsE_B hp
  have hv : (⟨s, [], []⟩ : Rec).V := by
    unfold playsE at hp
    by_cases h1 : checkE ⟨s, [], []⟩ = 0
    · exact checkE_V h1
    · rw [if_neg h1] at hp; exact absurd hp h1
  have hz := hv.z
  have hf := hv.f
  dsimp only at hz hf
  unfold needleP at hn
  rw [if_pos hr] at hn
  split at hn
  · cases hn
  · rename_i ht
    injection hn with h1 _
    unfold playsB endsB at hb
    simp only [Bool.and_eq_true] at hb
    obtain ⟨⟨_, _, e1, e2⟩, _⟩ := hb
    have e1 := has_iff.1 e1
    have e2 := has_iff.1 e2
    obtain ⟨n1, n2⟩ := need_bd (l := x.legs) (F := t - x.start) (P := x.micro) hx.legs (by omega) (by omega)
    have hst := hx.start
    have htm := hx.time
    omega
theorem plays_sess {s : Session} {x : Run} (hp : playsE s x = 0) : 0 ≤ s.zero.lo ∧ s.zero.lo ≤ s.fin.hi ∧ s.fin.hi ≤ 43199 := by
  have hv : (⟨s, [], []⟩ : Rec).V := by
    unfold playsE at hp
    by_cases h1 : checkE ⟨s, [], []⟩ = 0
    · exact checkE_V h1
    · rw [if_neg h1] at hp; exact absurd hp h1
  have hz := hv.z
  have hf := hv.f
  dsimp only at hz hf
  omega
theorem strikesE_of {lo hi : Int} : ∀ (l : List Strike) (seen : List Int), (∀ x ∈ l, strikeB lo hi x = true) → (∀ x ∈ l, x.id ∉ seen) → l.Pairwise (fun a b => a.id ≠ b.id) → strikesE lo hi seen l = 0
  | [], _, _, _, _ => rfl
  | x :: l, seen, h1, h2, h3 => by
    unfold strikesE
    rw [if_pos (h1 x (by simp)), if_neg (h2 x (by simp))]
    obtain ⟨h4, h5⟩ := List.pairwise_cons.1 h3
    refine strikesE_of l (seen ++ [x.id]) (fun y hy => h1 y (List.mem_cons_of_mem _ hy)) (fun y hy => ?_) h5
    rw [List.mem_append, List.mem_singleton]
    rintro (h | h)
    · exact h2 y (List.mem_cons_of_mem _ hy) h
    · exact h4 y hy h.symm
structure Told (s : Session) (x : Run) (S : List Strike) (ts : List Int) : Prop where
  len : S.length = ts.length
  id : ∀ i (h : i < S.length), S[i].id = (i : Int) + 1
  pos : ∀ i (h : i < S.length), s.zero.lo ≤ S[i].pos.lo ∧ S[i].pos.lo ≤ S[i].pos.hi ∧ S[i].pos.hi ≤ s.fin.hi
  at' : ∀ i (h : i < S.length), ∃ a, needleP x (ts.getD i 0) = (a, 0) ∧ S[i].pos.lo ≤ a ∧ a ≤ S[i].pos.hi
  inc : ∀ i, i + 1 < S.length → ts.getD i 0 ≤ ts.getD (i + 1) 0
theorem Told.nil (s : Session) (x : Run) : Told s x [] [] := ⟨rfl, fun i h => absurd h (Nat.not_lt_zero i), fun i h => absurd h (Nat.not_lt_zero i), fun i h => absurd h (Nat.not_lt_zero i), fun i h => absurd h (Nat.not_lt_zero _)⟩
theorem Told.snoc {s : Session} {x : Run} {S : List Strike} {ts : List Int} (h : Told s x S ts) {p : Span} {t a : Int} (hp : s.zero.lo ≤ p.lo ∧ p.lo ≤ p.hi ∧ p.hi ≤ s.fin.hi) (hn : needleP x t = (a, 0)) (ha : p.lo ≤ a ∧ a ≤ p.hi)
    (hi : ∀ k, ts.length = k + 1 → ts.getD k 0 ≤ t) : Told s x (S ++ [⟨(S.length : Int) + 1, p⟩]) (ts ++ [t]) := by
  have hl := h.len
  have old : ∀ i, i < S.length → (ts ++ [t]).getD i 0 = ts.getD i 0 := fun i hi => by
    rw [List.getD_eq_getElem?_getD, List.getElem?_append_left (by omega), ← List.getD_eq_getElem?_getD]
  have new : (ts ++ [t]).getD S.length 0 = t := by
    rw [List.getD_eq_getElem?_getD, hl, List.getElem?_append_right (Nat.le_refl _), Nat.sub_self]; rfl
  refine ⟨by simp [hl], fun i hi => ?_, fun i hi => ?_, fun i hi => ?_, fun i hi2 => ?_⟩
  · rcases Nat.lt_or_ge i S.length with h1 | h1
    · rw [List.getElem_append_left h1]; exact h.id i h1
    · obtain rfl : i = S.length := by rw [List.length_append, List.length_singleton] at hi; omega
      simp
  · rcases Nat.lt_or_ge i S.length with h1 | h1
    · rw [List.getElem_append_left h1]; exact h.pos i h1
    · obtain rfl : i = S.length := by rw [List.length_append, List.length_singleton] at hi; omega
      simpa using hp
  · rcases Nat.lt_or_ge i S.length with h1 | h1
    · rw [List.getElem_append_left h1, old i h1]; exact h.at' i h1
    · obtain rfl : i = S.length := by rw [List.length_append, List.length_singleton] at hi; omega
      rw [new]
      exact ⟨a, hn, by simpa using ha⟩
  · rw [List.length_append, List.length_singleton] at hi2
    rcases Nat.lt_or_ge (i + 1) S.length with h1 | h1
    · rw [old i (by omega), old (i + 1) h1]; exact h.inc i h1
    · have e : i + 1 = S.length := by omega
      rw [old i (by omega), e, new]
      exact hi i (by omega)
theorem Told.valid {s : Session} {x : Run} {S : List Strike} {ts : List Int} (hp : playsE s x = 0) (h : Told s x S ts) (hl : S.length ≤ 12) : checkE ⟨s, S, []⟩ = 0 := by
  have hc : checkE ⟨s, [], []⟩ = 0 := by
    unfold playsE at hp
    by_cases h1 : checkE ⟨s, [], []⟩ = 0
    · exact h1
    · rw [if_neg h1] at hp; exact absurd hp h1
  obtain ⟨h1, _⟩ := checkE_parts hc
  have hv := checkE_V hc
  refine checkE_of h1 hl (by simp) (strikesE_of _ _ (fun y hy => ?_) (fun y hy => by simp) ?_) rfl
  · obtain ⟨i, hi, rfl⟩ := List.mem_iff_getElem.1 hy
    have a1 := h.id i hi
    have a2 := h.pos i hi
    have hi' : i < S.length := hi
    unfold strikeB
    simp only [Bool.and_eq_true, decide_eq_true_eq]
    refine ⟨⟨by omega, by omega⟩, inB_iff.2 ?_⟩
    omega
  · rw [List.pairwise_iff_getElem]
    intro i j hi hj hij
    have a1 := h.id i hi
    have a2 := h.id j hj
    show S[i].id ≠ S[j].id
    intro e
    omega
theorem Told.spans {s : Session} {x : Run} {S : List Strike} {ts : List Int} (hp : playsE s x = 0) (h : Told s x S ts) (hl : S.length ≤ 12) :
    spansQ ⟨s, S, []⟩ = (spansP ⟨s, S, []⟩, 0) ∧ (spansP ⟨s, S, []⟩).length = S.length ∧ ∀ i, i < S.length → ∃ y, (spansP ⟨s, S, []⟩)[i]? = some y ∧ 0 ≤ y.lo ∧ y.lo ≤ ts.getD i 0 ∧ ts.getD i 0 ≤ y.hi ∧ y.hi ≤ 1073741823 ∧ 0 ≤ ts.getD i 0 ∧ ts.getD i 0 ≤ 1073741823 := by
  have hc := h.valid hp hl
  have hv := checkE_V hc
  have hq : (List.range ts.length).all (QB ⟨s, S, []⟩ x ts) = true := by
    rw [List.all_eq_true]
    intro i hi
    have hi : i < S.length := by rw [h.len]; exact List.mem_range.1 hi
    obtain ⟨a, b1, b2, b3⟩ := h.at' i hi
    have e : S.getD i default = S[i] := by rw [List.getD_eq_getElem?_getD, List.getElem?_eq_getElem hi]; rfl
    unfold QB
    dsimp only
    rw [e, b1]
    simp only [Bool.and_eq_true, Bool.or_eq_true, decide_eq_true_eq, List.all_nil]
    refine ⟨by trivial, b2, b3, ?_, trivial⟩
    rcases Nat.eq_zero_or_pos i with h0 | h0
    · exact .inl h0
    · refine .inr ?_
      have := h.inc (i - 1) (by omega)
      rw [show i - 1 + 1 = i by omega] at this
      exact this
  obtain ⟨hx, f, hf, f0, f1, f2, ft⟩ := true_sat (r := ⟨s, S, []⟩) hc hp h.len.symm hq
  have hcon : consP ⟨s, S, []⟩ [] = true := (cons_sat hv (by decide) nomore).2 ⟨f, hf⟩
  refine ⟨?_, ?_, fun i hi => ?_⟩
  · unfold spansQ; rw [if_pos hc, if_pos hcon]
  · unfold spansP; rw [List.length_map, List.length_range]
  · have hnl := nodesR_len ⟨s, S, []⟩ []
    have hi' : i < (⟨s, S, []⟩ : Rec).strikes.length := hi
    have hti : ts[i]? = some (ts.getD i 0) := by
      have : i < ts.length := by rw [← h.len]; exact hi
      rw [List.getD_eq_getElem?_getD, List.getElem?_eq_getElem this]; rfl
    obtain ⟨g1, g2, g3⟩ := ft i _ hti
    refine ⟨_, spans_is hi', ?_⟩
    have d1 := (dst_spec hc hcon (s := 0) (k := 3 + i) (by omega) (by omega)).2.1 f hf
    have d2 := (dst_spec hc hcon (s := 3 + i) (k := 0) (by omega) (by omega)).2.1 f hf
    have d3 := dst_strike hc hcon hi'
    dsimp only
    rw [firstP_get (by omega), lastP_get]
    omega
end Go.Proofs.Ks

namespace Go.Proofs.Hs
open Go Go.Pg Go.Proofs Go.Proofs.Yt
theorem walkR_append {h : House} : ∀ (a b : List Step) {f t p u : Int}, walkR h a f t = (p, u, 0) → walkR h (a ++ b) f t = walkR h b p u
  | [], b, f, t, p, u, hw => by
    simp only [walkR, Prod.mk.injEq] at hw
    obtain ⟨rfl, rfl, _⟩ := hw
    rfl
  | s :: a, b, f, t, p, u, hw => by
    rw [List.cons_append]
    have e2 : walkR h (s :: (a ++ b)) f t = if (stepR h f t s).2.2 ≠ 0 then (0, 0, (stepR h f t s).2.2) else walkR h (a ++ b) (stepR h f t s).1 (stepR h f t s).2.1 := rfl
    unfold walkR at hw
    split at hw
    · rename_i e
      simp only [Prod.mk.injEq] at hw
      exact absurd hw.2.2 e
    · rename_i e
      rw [e2, if_neg e]
      exact walkR_append a b hw
theorem stepR_time {h : House} {f t u : Int} {s : Step} (h1 : t ≤ s.at') (h2 : u ≤ s.at') : stepR h f t s = stepR h f u s := by
  unfold stepR
  simp only [show ¬ s.at' < t by omega, show ¬ s.at' < u by omega, if_false]
theorem walk_between {h : House} {l : List Step} {F t : Int} {pl : Nat → Int × Int} (hw : ∀ i, i ≤ l.length → walkR h (l.take i) F t = ((pl i).1, (pl i).2, 0)) {i j : Nat} (hij : i ≤ j) (hj : j ≤ l.length) :
    walkR h ((l.drop i).take (j - i)) (pl i).1 (pl i).2 = ((pl j).1, (pl j).2, 0) := by
  rw [← walkR_append (l.take i) ((l.drop i).take (j - i)) (hw i (by omega)), ← hw j hj]
  congr 1
  have := List.take_add (l := l) (i := i) (j := j - i)
  rw [show i + (j - i) = j by omega] at this
  exact this.symm
theorem walk_strike {h : House} {l : List Step} {F t : Int} {pl : Nat → Int × Int} (hw : ∀ i, i ≤ l.length → walkR h (l.take i) F t = ((pl i).1, (pl i).2, 0)) {i j : Nat} (hij : i ≤ j) (hj : j ≤ l.length)
    {T U : Int} (hT : ∀ s, l[i]? = some s → T ≤ s.at') (hU : (pl j).2 ≤ U) (hTU : T ≤ U) :
    ∃ v, walkR h ((l.drop i).take (j - i)) (pl i).1 T = ((pl j).1, v, 0) ∧ v ≤ U := by
  have hb := walk_between hw hij hj
  rcases Nat.lt_or_ge i j with hlt | hge
  · obtain ⟨s, hs⟩ : ∃ s, l[i]? = some s := ⟨_, List.getElem?_eq_getElem (by omega)⟩
    have hd : l.drop i = s :: l.drop (i + 1) := by
      obtain ⟨h1, h2⟩ := List.getElem?_eq_some_iff.1 hs
      rw [List.drop_eq_getElem_cons h1, h2]
    obtain ⟨m, hm⟩ : ∃ m, j - i = m + 1 := ⟨j - i - 1, by omega⟩
    rw [hd, hm, List.take_succ_cons] at hb ⊢
    refine ⟨(pl j).2, ?_, hU⟩
    unfold walkR at hb ⊢
    split at hb
    · rename_i e
      simp only [Prod.mk.injEq] at hb
      exact absurd hb.2.2 e
    · rename_i e
      have e0 : (stepR h (pl i).1 (pl i).2 s).2.2 = 0 := by omega
      obtain ⟨_, g, _, _, h1, _⟩ := stepR_zero e0
      rw [stepR_time (t := T) (u := (pl i).2) (hT s hs) h1, if_neg e]
      exact hb
  · obtain rfl : i = j := by omega
    refine ⟨T, ?_, hTU⟩
    rw [show i - i = 0 by omega, List.take_zero]
    rfl
theorem pair_ok {h : House} (hc : (Check h).1 = 0) {a b ta tb : Int} (ha : 0 ≤ a ∧ a < (h.rooms.length : Int)) (hta : 0 ≤ ta ∧ ta ≤ 1073741823) (htb : 0 ≤ tb ∧ tb ≤ 1073741823)
    {l : List Step} {v : Int} (hw : walkR h l a ta = (b, v, 0)) (hle : v ≤ tb) :
    canH h a ta b tb = (true, 0) ∧ (∃ X, earliestH h a ta = (X, 0) ∧ X.length = h.rooms.length ∧ X.getD b.toNat 0 ≤ tb) ∧ (∃ Y, latestH h b tb = (Y, 0) ∧ Y.length = h.rooms.length ∧ ta ≤ Y.getD a.toNat 0) ∧
      (∀ w, checkWallH h a ta b tb w = 8) ∧ ∀ lo hi, 0 ≤ lo → lo ≤ ta → tb ≤ hi → hi ≤ 1073741823 → canH h a lo b hi = (true, 0) := by
  have hv := Check_V hc
  obtain ⟨hb, w1, w2, _⟩ := walk_low hv l ha hta hw
  have harr := walk_arr hv ha hta hw
  have hroom : ∀ x : Int, 0 ≤ x ∧ x < (h.rooms.length : Int) → roomB h x = true := fun x hx => by simp only [roomB, Bool.and_eq_true, decide_eq_true_eq]; exact hx
  have htime : ∀ x : Int, 0 ≤ x ∧ x ≤ 1073741823 → timeB x = true := fun x hx => by simp only [timeB, Bool.and_eq_true, decide_eq_true_eq]; exact hx
  have hask : ∀ lo hi : Int, 0 ≤ lo ∧ lo ≤ 1073741823 → 0 ≤ hi ∧ hi ≤ 1073741823 → askedE h [a, b] [lo, hi] = 0 := fun lo hi h1 h2 => by
    unfold askedE
    rw [if_neg (by simp [hc])]
    simp [hroom a ha, hroom b hb, htime lo h1, htime hi h2]
  have hro : roomE h a ta = 0 := by unfold roomE; rw [if_neg (by simp [hc]), if_neg (by omega)]
  have hrp : roomE h b tb = 0 := by unfold roomE; rw [if_neg (by simp [hc]), if_neg (by omega)]
  have hA := arrH_eq hv ha hta
  have hcb := canBack hv ha hb hta htb
  have hcan : ∀ lo hi : Int, 0 ≤ lo → lo ≤ ta → tb ≤ hi → hi ≤ 1073741823 → canH h a lo b hi = (true, 0) := fun lo hi h1 h2 h3 h4 => by
    unfold canH
    rw [if_neg (by rw [hask lo hi (by omega) (by omega)]; simp), arrH_eq hv ha (by omega)]
    have := arr_monoD hv (p := a) (b := b) ha hb h1 h2 (by omega)
    rw [decide_eq_true (show (arrR h a.toNat lo).getD b.toNat 0 ≤ hi by omega)]
  have hle' : (arrH h a.toNat ta).1.getD b.toNat 0 ≤ tb := by rw [hA]; omega
  refine ⟨hcan ta tb (by omega) (by omega) (by omega) (by omega), ⟨arrR h a.toNat ta, ?_, ?_, by omega⟩, ⟨late h b.toNat tb, ?_, ?_, hcb.1 hle'⟩, fun w => ?_, hcan⟩
  · unfold earliestH; rw [if_neg (by simp [hro]), hA]
  · exact (arrR_is hv (a := a.toNat) (by omega) (t := ta) (by omega)).1
  · unfold latestH; rw [if_neg (by simp [hrp])]
  · unfold late; rw [lateF_len]; simp
  · unfold checkWallH
    rw [if_neg (by rw [hask ta tb hta htb]; simp), nowall hv ha hb hta hle']
    rfl
end Go.Proofs.Hs

namespace Go.Proofs.Yt
open Go Go.Pg Go.Proofs
open Go.Proofs.Hs (House Step Walk walkR)
theorem walked_good {h : House} {F t : Int} {l : List Step} {PL : List (Int × Int)} (hl : l.length ≤ 60) (hw : walkedF h F t l = (PL, true)) :
    (Hs.Check h).1 = 0 ∧ (0 ≤ F ∧ F < (h.rooms.length : Int)) ∧ (0 ≤ t ∧ t ≤ 1073741823) ∧ PL.length = l.length + 1 ∧
      ∃ pl : Nat → Int × Int, pl 0 = (F, t) ∧ (∀ i, i ≤ l.length → walkR h (l.take i) F t = ((pl i).1, (pl i).2, 0)) ∧ ∀ i, i ≤ l.length → PL[i]? = some (pl i) := by
  unfold walkedF at hw
  split at hw
  · rename_i hall
    injection hw with h1 h2
    have h0 := of_decide_eq_true h2
    have key : (Hs.Check h).1 = 0 ∧ (0 ≤ F ∧ F < (h.rooms.length : Int)) ∧ (0 ≤ t ∧ t ≤ 1073741823) := by
      unfold Walk at h0
      split at h0
      · rename_i hn; exact absurd h0 hn
      · rename_i hc
        split at h0
        · cases h0
        · exact ⟨by omega, by omega, by omega⟩
    obtain ⟨hc, hF, ht⟩ := key
    have hW : ∀ m : List Step, m.length ≤ 60 → Walk h F t m = walkR h m F t := fun m hm => by
      rw [Hs.Walk_eq]; unfold Hs.WalkR; rw [if_neg (by simp [hc]), if_neg (by omega), if_neg (by omega)]
    refine ⟨hc, hF, ht, by rw [← h1, plF_len], fun i => ((walkR h (l.take i) F t).1, (walkR h (l.take i) F t).2.1), rfl, fun i hi => ?_, fun i hi => ?_⟩
    · rcases i with _ | k
      · rfl
      · have := hall k (by omega)
        rw [hW _ (by rw [List.length_take]; omega)] at this
        obtain ⟨z, hz⟩ : ∃ z, walkR h (l.take (k + 1)) F t = z := ⟨_, rfl⟩
        rw [hz] at this ⊢
        obtain ⟨a, b, c⟩ := z
        dsimp only at this ⊢
        rw [this]
        simp only [hz]
    · rw [← h1]
      unfold plF
      rcases i with _ | k
      · rfl
      · rw [List.getElem?_cons_succ, List.getElem?_map, List.getElem?_range (by omega), Option.map_some, hW _ (by rw [List.length_take]; omega)]
  · cases hw
def At (steps : List Step) (pl : Nat → Int × Int) (T a : Int) : Prop :=
  ∃ m, m ≤ steps.length ∧ a = (pl m).1 ∧ (pl m).2 ≤ T ∧ (∀ q, m < q → q ≤ steps.length → T < (pl q).2) ∧ ∀ s, steps[m]? = some s → T ≤ s.at'
theorem pair_law {h : House} {F t : Int} {steps : List Step} {pl : Nat → Int × Int} (hc : (Hs.Check h).1 = 0) (hF : 0 ≤ F ∧ F < (h.rooms.length : Int)) (ht : 0 ≤ t ∧ t ≤ 1073741823)
    (hw : ∀ i, i ≤ steps.length → walkR h (steps.take i) F t = ((pl i).1, (pl i).2, 0)) {T U a b : Int} (hT : 0 ≤ T ∧ T ≤ 1073741823) (hU : 0 ≤ U ∧ U ≤ 1073741823) (hTU : T ≤ U) (ha : At steps pl T a) (hb : At steps pl U b) :
    (0 ≤ a ∧ a < (h.rooms.length : Int)) ∧ (0 ≤ b ∧ b < (h.rooms.length : Int)) ∧ Hs.canH h a T b U = (true, 0) ∧ (∃ X, Hs.earliestH h a T = (X, 0) ∧ X.length = h.rooms.length ∧ X.getD b.toNat 0 ≤ U) ∧ (∃ Y, Hs.latestH h b U = (Y, 0) ∧ Y.length = h.rooms.length ∧ T ≤ Y.getD a.toNat 0) ∧
      (∀ w, Hs.checkWallH h a T b U w = 8) ∧ ∀ lo hi, 0 ≤ lo → lo ≤ T → U ≤ hi → hi ≤ 1073741823 → Hs.canH h a lo b hi = (true, 0) := by
  obtain ⟨m, m1, rfl, m2, m3, m4⟩ := ha
  obtain ⟨k, k1, rfl, k2, k3, k4⟩ := hb
  have hmk : m ≤ k := by
    rcases Nat.lt_or_ge k m with h' | h'
    · have := k3 m h' m1
      omega
    · exact h'
  obtain ⟨v, hv, hle⟩ := Hs.walk_strike hw hmk k1 m4 k2 hTU
  have hra := (Hs.walk_low (Hs.Check_V hc) _ hF ht (hw m m1)).1
  have hrb := (Hs.walk_low (Hs.Check_V hc) _ hF ht (hw k k1)).1
  exact ⟨hra, hrb, Hs.pair_ok hc hra hT hU hv hle⟩
end Go.Proofs.Yt

set_option maxHeartbeats 8000000
set_option maxRecDepth 10000
namespace Go.Proofs.Yt
open Go Go.Pg Go.Proofs
open Go.Proofs.Hs (House Step eHouse eStep)
open Go.Proofs.Ks (Session Run Span Strike eSession eRun eSpan lSpan eStrike lStrike lSight lStop eStop lLeg eLeg eInt lInt takeM dropM leT isEmpty_map getD_map get_map drop_cons drop_nil playsE needleP Plays_ok Spans_ok spansQ spansP)
open Go.Proofs.Ds (Ink Blow eKey eInk eBlow eMark rowAt_aftF)
attribute [local push_cast] Bool.and_false Bool.and_self Bool.and_true Bool.false_and Bool.false_eq_true Bool.not_false Bool.not_true Bool.true_and List.length_nil List.map_nil List.mem_cons List.not_mem_nil Nat.add_assoc TyD.isAgg natNe
theorem few_ok (h : House) (F t : Int) (steps : List Step) (ses : Session) (x : Run) (keys : List Ds.Key) (ink : Ink) (l : List Hit) (wall : List Int) (hf : ¬ ((steps.length ≤ 20 ∧ l.length ≤ 6 ∧ ses.stops.length ≤ 8 ∧ x.legs.length ≤ 40 ∧ keys.length ≤ 40 ∧ wall.length ≤ 30 ∧ h.rooms.length ≤ 30 ∧ h.doors.length ≤ 20 ∧ h.ways.length ≤ 70) ∧ playsE ses x = 0)) : OKv cx 3 [.agg (eHouse h), ai F, ai t, .lst (steps.map eStep), .agg (eSession ses), .agg (eRun x), lKey keys, .agg (eInk ink), .lst (l.map eHit), lInt wall] (ab true) := by
  have cR := rooms_ok
  by_cases q0 : 20 < steps.length
  rotate_left
  by_cases q1 : 6 < l.length
  rotate_left
  by_cases q2 : 8 < ses.stops.length
  rotate_left
  by_cases q3 : 40 < x.legs.length
  rotate_left
  by_cases q4 : 40 < keys.length
  rotate_left
  by_cases q5 : 30 < wall.length
  rotate_left
  by_cases q6 : 30 < h.rooms.length
  rotate_left
  by_cases q7 : 20 < h.doors.length
  rotate_left
  by_cases q8 : 70 < h.ways.length
  rotate_left
  · skip
    have g0 : ((20 : Int) < (steps.length : Int)) = False := eq_false (by omega)
    have g1 : ((6 : Int) < (l.length : Int)) = False := eq_false (by omega)
    have g2 : ((8 : Int) < (ses.stops.length : Int)) = False := eq_false (by omega)
    have g3 : ((40 : Int) < (x.legs.length : Int)) = False := eq_false (by omega)
    have g4 : ((40 : Int) < (keys.length : Int)) = False := eq_false (by omega)
    have g5 : ((30 : Int) < (wall.length : Int)) = False := eq_false (by omega)
    have g6 : ((30 : Int) < (h.rooms.length : Int)) = False := eq_false (by omega)
    have g7 : ((20 : Int) < (h.doors.length : Int)) = False := eq_false (by omega)
    have g8 : ((70 : Int) < (h.ways.length : Int)) = False := eq_false (by omega)
    have hp : ¬ playsE ses x = 0 := fun hp => hf ⟨⟨by simp only [eq_iff_iff, iff_false] at g0; omega, by simp only [eq_iff_iff, iff_false] at g1; omega, by simp only [eq_iff_iff, iff_false] at g2; omega, by simp only [eq_iff_iff, iff_false] at g3; omega, by simp only [eq_iff_iff, iff_false] at g4; omega, by simp only [eq_iff_iff, iff_false] at g5; omega, by simp only [eq_iff_iff, iff_false] at g6; omega, by simp only [eq_iff_iff, iff_false] at g7; omega, by simp only [eq_iff_iff, iff_false] at g8; omega⟩, hp⟩
    have hx : x.legs.length ≤ 40 := by simp only [eq_iff_iff, iff_false] at g3; omega
    have c4 := Plays_ok ses x (by omega)
    obtain ⟨E, hE⟩ : ∃ z, playsE ses x = z := ⟨_, rfl⟩
    rw [hE] at c4 hp
    have hpF := eq_false hp
    refine OKat.of_body (rs := [20]) Tryz.func3 rfl (by decide +kernel) rfl (by simp [Tryz.ntmps3]) ?_
    simp only [Tryz.ntmps3]
    repeat' first
      | apply jA | apply jB | apply jC | apply jI
      | ((first | (apply jK kO; decide) | (apply jN; rfl; decide) | apply jR); (simp (disch := omega) only [push_cast, simprocAttr, g0, g1, g2, g3, g4, g5, g6, g7, g8, hpF] <;> rfl); all_goals try ((with_reducible intro hI); try first | (cases hI; done) | (simp only [INTS, zL] at hI; try first | (exfalso; omega) | (have hT : True := hI; clear hT hI))))
      | ((apply jV kO; decide); (iterate 2 (simp (disch := omega) only [push_cast, simprocAttr, g0, g1, g2, g3, g4, g5, g6, g7, g8, hpF] <;> rfl)); (with_reducible first | exact cR | exact c4); try first | rfl | (simp (disch := omega) only [push_cast, simprocAttr, g0, g1, g2, g3, g4, g5, g6, g7, g8, hpF] <;> rfl))
      | ((apply W.ret1); (iterate 2 (try (simp (disch := omega) only [push_cast, simprocAttr, g0, g1, g2, g3, g4, g5, g6, g7, g8, hpF] <;> rfl))))

    all_goals (show _ = _; rfl)
  all_goals
    first | (have g0 : ((20 : Int) < (steps.length : Int)) = True := eq_true (by omega)) | (have g0 : ((20 : Int) < (steps.length : Int)) = False := eq_false (by omega)) | (have g0 := Nat.add_zero)
    first | (have g1 : ((6 : Int) < (l.length : Int)) = True := eq_true (by omega)) | (have g1 : ((6 : Int) < (l.length : Int)) = False := eq_false (by omega)) | (have g1 := Nat.add_zero)
    first | (have g2 : ((8 : Int) < (ses.stops.length : Int)) = True := eq_true (by omega)) | (have g2 : ((8 : Int) < (ses.stops.length : Int)) = False := eq_false (by omega)) | (have g2 := Nat.add_zero)
    first | (have g3 : ((40 : Int) < (x.legs.length : Int)) = True := eq_true (by omega)) | (have g3 : ((40 : Int) < (x.legs.length : Int)) = False := eq_false (by omega)) | (have g3 := Nat.add_zero)
    first | (have g4 : ((40 : Int) < (keys.length : Int)) = True := eq_true (by omega)) | (have g4 : ((40 : Int) < (keys.length : Int)) = False := eq_false (by omega)) | (have g4 := Nat.add_zero)
    first | (have g5 : ((30 : Int) < (wall.length : Int)) = True := eq_true (by omega)) | (have g5 : ((30 : Int) < (wall.length : Int)) = False := eq_false (by omega)) | (have g5 := Nat.add_zero)
    first | (have g6 : ((30 : Int) < (h.rooms.length : Int)) = True := eq_true (by omega)) | (have g6 : ((30 : Int) < (h.rooms.length : Int)) = False := eq_false (by omega)) | (have g6 := Nat.add_zero)
    first | (have g7 : ((20 : Int) < (h.doors.length : Int)) = True := eq_true (by omega)) | (have g7 : ((20 : Int) < (h.doors.length : Int)) = False := eq_false (by omega)) | (have g7 := Nat.add_zero)
    first | (have g8 : ((70 : Int) < (h.ways.length : Int)) = True := eq_true (by omega)) | (have g8 : ((70 : Int) < (h.ways.length : Int)) = False := eq_false (by omega)) | (have g8 := Nat.add_zero)
    refine OKat.of_body (rs := [20]) Tryz.func3 rfl (by decide +kernel) rfl (by simp [Tryz.ntmps3]) ?_
    simp only [Tryz.ntmps3]
    repeat' first
      | apply jA | apply jB | apply jC | apply jI
      | ((first | (apply jK kO; decide) | (apply jN; rfl; decide) | apply jR); (simp (disch := omega) only [push_cast, simprocAttr, g0, g1, g2, g3, g4, g5, g6, g7, g8] <;> rfl); all_goals try ((with_reducible intro hI); try first | (cases hI; done) | (simp only [INTS, zL] at hI; try first | (exfalso; omega) | (have hT : True := hI; clear hT hI))))
      | ((apply jV kO; decide); (iterate 2 (simp (disch := omega) only [push_cast, simprocAttr, g0, g1, g2, g3, g4, g5, g6, g7, g8] <;> rfl)); (with_reducible exact cR); try first | rfl | (simp (disch := omega) only [push_cast, simprocAttr, g0, g1, g2, g3, g4, g5, g6, g7, g8] <;> rfl))
      | ((apply W.ret1); (iterate 2 (try (simp (disch := omega) only [push_cast, simprocAttr, g0, g1, g2, g3, g4, g5, g6, g7, g8] <;> rfl))))

    all_goals (show _ = _; rfl)
end Go.Proofs.Yt

namespace Go.Proofs.Yt
open Go Go.Pg Go.Proofs
open Go.Proofs.Hs (House Step eHouse eStep)
open Go.Proofs.Ks (Session Run Span Strike eSession eRun eSpan lSpan eStrike lStrike lSight lStop eStop lLeg eLeg eInt lInt takeM dropM leT isEmpty_map getD_map get_map drop_cons drop_nil playsE needleP Plays_ok Spans_ok spansQ spansP)
open Go.Proofs.Ds (Ink Blow eKey eInk eBlow eMark rowAt_aftF)
attribute [local push_cast] Bool.and_false Bool.and_self Bool.and_true Bool.false_and Bool.false_eq_true Bool.not_false Bool.not_true Bool.true_and List.append_nil List.cons_append List.length_nil List.map_nil List.mem_cons List.nil_append List.not_mem_nil Nat.add_assoc St.back TyD.isAgg idsA idsL natNe
attribute [local push_cast] Option.map_some idsLL if_false if_true or_true rowAt_aftF true_or
theorem AW.seqS {C : Cx} {N : Nat} {x y : Code} {Q : Exit → St → Prop} {s : St} (h : AW C N x (thenQ (fun s => Pg.Stop (AW C N y Q s)) Q) s) : AW C N (.seq x y) Q s :=
  AW.seq (AW.mono h fun e s' hq => by cases e <;> first | exact hq.get | exact hq)
def dropS : Nat → Code → Code
  | n + 1, .seq _ b => dropS n b
  | _, c => c
noncomputable def tailL : Code := dropS 7 (Tryz.f3.body.getD .skip)
theorem get_eInt (A : List Int) (k : Nat) (a : Int) (h : A[k]? = some a) : (A.map eInt)[k]? = some [ai a] ∧ (A.map eInt).getD k [] = [ai a] := by
  have e : (A.map eInt)[k]? = some [ai a] := by rw [List.getElem?_map, h]; rfl
  exact ⟨e, by rw [List.getD_eq_getElem?_getD, e]; rfl⟩
theorem tail_ok (h : House) (F t : Int) (steps : List Step) (ses : Session) (x : Run) (l : List Hit) (wall : List Int) (hfit : h.Fit) (hl6 : l.length ≤ 6) (hw30 : wall.length ≤ 30)
    (hp : playsE ses x = 0) {pl : Nat → Int × Int} (hc : (Hs.Check h).1 = 0) (hF : 0 ≤ F ∧ F < (h.rooms.length : Int)) (ht : 0 ≤ t ∧ t ≤ 1073741823)
    (hw : ∀ i, i ≤ steps.length → Hs.walkR h (steps.take i) F t = ((pl i).1, (pl i).2, 0)) (S : List Strike) (A : List Int) (la ls : Nat) (hT : Ks.Told ses x S (l.map (·.time))) (hA : A.length = l.length)
    (hAt : ∀ (i : Nat) (y : Hit) (a : Int), l[i]? = some y → A[i]? = some a → At steps pl y.time a) {s0 : St}
    (t8 : s0.tm 8 = .lst (l.map eHit)) (t9 : s0.tm 9 = lInt wall) (t10 : s0.tm 10 = .ptr 0 0 0 1) (t23 : s0.tm 23 = .ptr 4 0 0 1) (t24 : s0.tm 24 = .ref 6 0 l.length)
    (r0 : Pg.rowAt s0.H 0 = some { k := 3, es := [eHouse h], ty := 26 }) (r4 : Pg.rowAt s0.H 4 = some { k := 14, es := [[ai ses.id, ai ses.inn.lo, ai ses.inn.hi, ai ses.out.lo, ai ses.out.hi, ai ses.zero.lo, ai ses.zero.hi, ai ses.fin.lo, ai ses.fin.hi, ai ses.rate.lo, ai ses.rate.hi, lStop ses.stops, .ref 5 0 l.length, .v (.slice none 0 0)]], ty := 50 }) (r5 : Pg.rowAt s0.H 5 = some { k := 3, es := S.map eStrike, ty := 70, lo := ls }) (r6 : Pg.rowAt s0.H 6 = some { k := 1, es := A.map eInt, ty := 3, lo := la })
    (hls : ls ≤ l.length) (hla : la ≤ l.length) (hnx : 7 ≤ s0.nx) : AW cx 404 tailL (endQ [20] fun x => x = ab true) s0 := by
  have hf1 : ∀ l x, flatA (.tup [.lst l, .v x]) = false := fun _ _ => rfl
  have hf2 : ∀ l, flatA (.lst l) = false := fun _ => rfl
  have hf3 : ∀ x, flatA (.v x) = true := fun _ => rfl
  have hf8 : ∀ x y, flatA (.tup [.v x, .v y]) = true := fun _ _ => rfl
  have hf9 : ∀ l x, flatA (.tup [.lst l, .v x]) = false := fun _ _ => rfl
  have hfA : ∀ a b c d e f g, flatA (.tup [.agg [.v a, .v b, .v c, .v d, .v e], .v f, .v g]) = true := fun _ _ _ _ _ _ _ => rfl
  have hfB : ∀ a b c, flatA (.tup [.agg [.v a, .v b], .v c]) = true := fun _ _ _ => rfl
  have cR := rooms_ok
  have hS : S.length = l.length := by rw [hT.len, List.length_map]
  obtain ⟨hs1, hs2, hs3⟩ := hT.spans hp (by omega)
  have c9 : OKv cx 9 [.agg [ai ses.id, ai ses.inn.lo, ai ses.inn.hi, ai ses.out.lo, ai ses.out.hi, ai ses.zero.lo, ai ses.zero.hi, ai ses.fin.lo, ai ses.fin.hi, ai ses.rate.lo, ai ses.rate.hi, lStop ses.stops, lStrike S, .lst []]] (.tup [lSpan (spansQ ⟨ses, S, []⟩).1, ai (spansQ ⟨ses, S, []⟩).2]) := Spans_ok ⟨ses, S, []⟩
  rw [hs1] at c9
  obtain ⟨SP, hSP⟩ : ∃ z, spansP ⟨ses, S, []⟩ = z := ⟨_, rfl⟩
  rw [hSP] at c9 hs2 hs3
  dsimp only at c9
  have hlS : ((SP.length : Int) = (l.length : Int)) = True := eq_true (by omega)
  have hlB : (ls ≤ S.length) = True := eq_true (by omega)
  have hlaT : (la ≤ l.length) = True := eq_true hla
  have htk : (S.map eStrike).take l.length = S.map eStrike := by rw [← hS, List.take_of_length_le (by rw [List.length_map]; exact Nat.le_refl _)]
  have time : ∀ (i : Nat) (y : Hit), l[i]? = some y → (l.map (·.time)).getD i 0 = y.time := fun i y hy => by
    rw [List.getD_eq_getElem?_getD, List.getElem?_map, hy]; rfl
  have inc : ∀ (d i : Nat), i + d < l.length → (l.map (·.time)).getD i 0 ≤ (l.map (·.time)).getD (i + d) 0 := fun d => by
    induction d with
    | zero => intro i _; exact Int.le_refl _
    | succ d ih =>
      intro i hd
      exact Int.le_trans (ih i (by omega)) (hT.inc (i + d) (by omega))
  delta tailL
  simp only [Tryz.f3, Option.getD_some, dropS]
  repeat' first
    | apply jA | apply jB | apply jD | apply jE | apply jI
    | ((first | (apply jK kO; decide) | (apply jN; rfl; decide) | apply jR); (simp (disch := omega) only [push_cast, simprocAttr, hf1, hf2, hf3, hf8, hf9, hfA, hfB, t8, t9, t10, t23, t24, r0, r4, r5, r6, hS, hlS, hnx, htk, hlB, hls] <;> rfl); all_goals try ((with_reducible intro hI); try first | (cases hI; done) | (simp only [INTS, zL] at hI; try first | (exfalso; omega) | (have hT : True := hI; clear hT hI))))
    | ((apply jV kO; decide); (iterate 2 (simp (disch := omega) only [push_cast, simprocAttr, hf1, hf2, hf3, hf8, hf9, hfA, hfB, t8, t9, t10, t23, t24, r0, r4, r5, r6, hS, hlS, hnx, htk, hlB, hls] <;> rfl)); (with_reducible exact c9); try first | rfl | (simp (disch := omega) only [push_cast, simprocAttr, hf1, hf2, hf3, hf8, hf9, hfA, hfB, t8, t9, t10, t23, t24, r0, r4, r5, r6, hS, hlS, hnx, htk, hlB, hls] <;> rfl))

  refine AW.loop (fun n s => ∃ (i : Nat), n = l.length - i ∧ (i ≤ l.length) ∧ 7 ≤ s.nx ∧ s.tm 8 = .lst (l.map eHit) ∧ s.tm 9 = lInt wall ∧ s.tm 10 = .ptr 0 0 0 1 ∧ s.tm 24 = .ref 6 0 l.length ∧ s.tm 32 = lSpan SP ∧ s.tm 34 = ai i ∧ Pg.rowAt s.H (0) = some ({ k := 3, es := [eHouse h], ty := 26 }) ∧ Pg.rowAt s.H (6) = some ({ k := 1, es := A.map eInt, ty := 3, lo := la })) (l.length) ⟨0, rfl, (Nat.zero_le _), ?_, ?_, ?_, ?_, ?_, ?_, ?_, ?_, ?_⟩ ?_
  iterate 9 (first | (simp (disch := omega) only [push_cast, simprocAttr, hf1, hf2, hf3, hf8, hf9, hfA, hfB, t8, t9, t10, t23, t24, r0, r4, r5, r6, hS, hlS, hnx, hA] <;> first | rfl | omega) | omega)
  rintro n1 s1 ⟨i1, hn1, hp01, hnl1, hS1⟩
  have hZ1 : (0 : Nat) ≠ s1.nx ∧ s1.nx ≠ (0 : Nat) ∧ (6 : Nat) ≠ s1.nx ∧ s1.nx ≠ (6 : Nat) := by omega
  by_cases hi : i1 < l.length
  · have hii : (i1 : Int) < (l.length : Int) := by omega
    obtain ⟨y, hy⟩ : ∃ y, l[i1]? = some y := ⟨_, List.getElem?_eq_getElem hi⟩
    obtain ⟨a, ha⟩ : ∃ a, A[i1]? = some a := ⟨_, List.getElem?_eq_getElem (by omega)⟩
    obtain ⟨yi, hyi, e1, e2, e3, e4, e5, e6⟩ := hs3 i1 (by omega)
    rw [time i1 y hy] at e2 e3 e5 e6
    repeat' first
      | apply jA | apply jB | apply jD | apply jE | apply jI
      | ((first | (apply jK kO; decide) | apply jR); (simp (disch := omega) only [push_cast, simprocAttr, hS1, hZ1, hf1, hf2, hf3, hf8, hf9, hfA, hfB, hA, hii] <;> rfl); all_goals try ((with_reducible intro hI); try first | (cases hI; done) | (simp only [INTS, zL] at hI; try first | (exfalso; omega) | (have hT : True := hI; clear hT hI))))

    refine AW.loop (fun n s => ∃ (j : Nat), n = l.length - j ∧ (i1 ≤ j) ∧ (j ≤ l.length) ∧ 7 ≤ s.nx ∧ s.tm 8 = .lst (l.map eHit) ∧ s.tm 9 = lInt wall ∧ s.tm 10 = .ptr 0 0 0 1 ∧ s.tm 24 = .ref 6 0 l.length ∧ s.tm 32 = lSpan SP ∧ s.tm 34 = ai i1 ∧ s.tm 35 = ai j ∧ Pg.rowAt s.H (0) = some ({ k := 3, es := [eHouse h], ty := 26 }) ∧ Pg.rowAt s.H (6) = some ({ k := 1, es := A.map eInt, ty := 3, lo := la })) ((l.length - i1)) ⟨i1, rfl, (Nat.le_refl _), (by omega), ?_, ?_, ?_, ?_, ?_, ?_, ?_, ?_, ?_, ?_⟩ ?_
    iterate 10 (first | (simp (disch := omega) only [push_cast, simprocAttr, hS1, hZ1, hf1, hf2, hf3, hf8, hf9, hfA, hfB, hA, hi] <;> first | rfl | omega) | omega)
    rintro n2 s2 ⟨j2, hn2, hp02, hp12, hnl2, hS2⟩
    have hZ2 : (0 : Nat) ≠ s2.nx ∧ s2.nx ≠ (0 : Nat) ∧ (6 : Nat) ≠ s2.nx ∧ s2.nx ≠ (6 : Nat) := by omega
    by_cases hj : j2 < l.length
    · have hjj : (j2 : Int) < (l.length : Int) := by omega
      obtain ⟨z, hz⟩ : ∃ z, l[j2]? = some z := ⟨_, List.getElem?_eq_getElem hj⟩
      obtain ⟨b, hb⟩ : ∃ b, A[j2]? = some b := ⟨_, List.getElem?_eq_getElem (by omega)⟩
      obtain ⟨yj, hyj, k1, k2, k3, k4, k5, k6⟩ := hs3 j2 (by omega)
      rw [time j2 z hz] at k2 k3 k5 k6
      have hle : y.time ≤ z.time := by
        have := inc (j2 - i1) i1 (by omega)
        rw [show i1 + (j2 - i1) = j2 by omega, time i1 y hy, time j2 z hz] at this
        exact this
      obtain ⟨q1, q2, q3, ⟨X, q4, q5, q6⟩, ⟨Y, q7, q8, q9⟩, q10, q11⟩ := pair_law hc hF ht hw ⟨e5, e6⟩ ⟨k5, k6⟩ hle (hAt i1 y a hy ha) (hAt j2 z b hz hb)
      have q12 := q11 yi.lo yj.hi e1 e2 k3 k4
      obtain ⟨na, rfl⟩ : ∃ m : Nat, a = (m : Int) := ⟨a.toNat, by omega⟩
      obtain ⟨nb, rfl⟩ : ∃ m : Nat, b = (m : Int) := ⟨b.toNat, by omega⟩
      rw [Int.toNat_natCast] at q6 q9
      have d1 := Hs.Can_ok h na y.time nb z.time hfit
      rw [q3] at d1
      have d2 := Hs.Earliest_ok h na y.time hfit
      rw [q4] at d2
      have d3 := Hs.Latest_ok h nb z.time hfit
      rw [q7] at d3
      have d4 := Hs.CheckWall_ok h na y.time nb z.time wall hfit (by omega)
      rw [q10] at d4
      have hrl := (Hs.Check_V hc).rooms
      have d5 := Hs.CheckWall_ok h na y.time nb z.time X hfit (by omega)
      rw [q10] at d5
      have d6 := Hs.Can_ok h na yi.lo nb yj.hi hfit
      rw [q12] at d6
      dsimp only at d1 d2 d3 d4 d5 d6
      have hxi : (l.map eHit)[i1]? = some (eHit y) := by rw [List.getElem?_map, hy]; rfl
      have hgi : (l.map eHit).getD i1 [] = eHit y := by rw [List.getD_eq_getElem?_getD, hxi]; rfl
      have hxj : (l.map eHit)[j2]? = some (eHit z) := by rw [List.getElem?_map, hz]; rfl
      have hgj : (l.map eHit).getD j2 [] = eHit z := by rw [List.getD_eq_getElem?_getD, hxj]; rfl
      obtain ⟨hai, hbi⟩ := get_eInt A i1 na ha
      obtain ⟨haj, hbj⟩ := get_eInt A j2 nb hb
      have hsi : (SP.map eSpan)[i1]? = some (eSpan yi) := by rw [List.getElem?_map, hyi]; rfl
      have hti : (SP.map eSpan).getD i1 [] = eSpan yi := by rw [List.getD_eq_getElem?_getD, hsi]; rfl
      have hsj : (SP.map eSpan)[j2]? = some (eSpan yj) := by rw [List.getElem?_map, hyj]; rfl
      have htj : (SP.map eSpan).getD j2 [] = eSpan yj := by rw [List.getD_eq_getElem?_getD, hsj]; rfl
      have nbl : ((nb : Int) < (X.length : Int)) = True := eq_true (by omega)
      have nal : ((na : Int) < (Y.length : Int)) = True := eq_true (by omega)
      obtain ⟨vx, hvx⟩ : ∃ v, X[nb]? = some v := ⟨_, List.getElem?_eq_getElem (by omega)⟩
      obtain ⟨vy, hvy⟩ : ∃ v, Y[na]? = some v := ⟨_, List.getElem?_eq_getElem (by omega)⟩
      obtain ⟨hXb, hXc⟩ := get_eInt X nb vx hvx
      obtain ⟨hYa, hYc⟩ := get_eInt Y na vy hvy
      rw [List.getD_eq_getElem?_getD, hvx] at q6
      rw [List.getD_eq_getElem?_getD, hvy] at q9
      have hlx : (z.time < vx) = False := eq_false (by simp only [Option.getD_some] at q6; omega)
      have hly : (vy < y.time) = False := eq_false (by simp only [Option.getD_some] at q9; omega)
      have hil : ((i1 : Int) < (SP.length : Int)) = True := eq_true (by omega)
      have hjl : ((j2 : Int) < (SP.length : Int)) = True := eq_true (by omega)
      repeat' first
        | apply jA | apply jB | apply jD | apply jE | apply jI | apply jJ
        | refine W.draw cx_mixed (by decide +kernel) ?_
        | ((first | (apply jK kO; decide) | (apply jL kO; decide; decide) | (apply jN; rfl; decide) | (apply jO; rfl; decide; decide) | apply jR); (simp (disch := omega) only [push_cast, simprocAttr, hS2, hZ2, hf1, hf2, hf3, hf8, hf9, hfA, hfB, hA, hlaT, hii, hjj, hxi, hgi, hxj, hgj, hai, hbi, haj, hbj, hsi, hti, hsj, htj, nbl, nal, hXb, hXc, hYa, hYc, hlx, hly, hil, hjl] <;> rfl); all_goals try ((with_reducible intro hI); try first | (cases hI; done) | (simp only [INTS, zL] at hI; try first | (exfalso; omega) | (have hT : True := hI; clear hT hI))))
        | ((apply jW kO; decide; decide); (iterate 2 (simp (disch := omega) only [push_cast, simprocAttr, hS2, hZ2, hf1, hf2, hf3, hf8, hf9, hfA, hfB, hA, hlaT, hii, hjj, hxi, hgi, hxj, hgj, hai, hbi, haj, hbj, hsi, hti, hsj, htj, nbl, nal, hXb, hXc, hYa, hYc, hlx, hly, hil, hjl] <;> rfl)); (with_reducible first | exact d1 | exact d2 | exact d3 | exact d4 | exact d5 | exact d6); try first | rfl | (simp (disch := omega) only [push_cast, simprocAttr, hS2, hZ2, hf1, hf2, hf3, hf8, hf9, hfA, hfB, hA, hlaT, hii, hjj, hxi, hgi, hxj, hgj, hai, hbi, haj, hbj, hsi, hti, hsj, htj, nbl, nal, hXb, hXc, hYa, hYc, hlx, hly, hil, hjl] <;> rfl))

      all_goals (refine ⟨l.length - (j2 + 1), ?_, j2 + 1, rfl, (by omega), (by omega), ?_, ?_, ?_, ?_, ?_, ?_, ?_, ?_, ?_, ?_⟩; ((omega)); all_goals first | (simp (disch := omega) only [push_cast, simprocAttr, hS2, hZ2, hf1, hf2, hf3, hf8, hf9, hfA, hfB, hA, hlaT, hjj] <;> first | rfl | omega) | omega)
    have hjj : ¬ (j2 : Int) < (l.length : Int) := by omega
    repeat' first
      | apply jA | apply jB | apply jF | apply jI
      | ((first | (apply jK kO; decide) | apply jR); (simp (disch := omega) only [push_cast, simprocAttr, hS2, hZ2, hf1, hf2, hf3, hf8, hf9, hfA, hfB, hA, hlaT, hjj, hii] <;> rfl); all_goals try ((with_reducible intro hI); try first | (cases hI; done) | (simp only [INTS, zL] at hI; try first | (exfalso; omega) | (have hT : True := hI; clear hT hI))))

    all_goals (refine ⟨l.length - (i1 + 1), ?_, i1 + 1, rfl, (by omega), ?_, ?_, ?_, ?_, ?_, ?_, ?_, ?_, ?_⟩; ((omega)); all_goals first | (simp (disch := omega) only [push_cast, simprocAttr, hS2, hZ2, hf1, hf2, hf3, hf8, hf9, hfA, hfB, hA, hlaT, hjj] <;> first | rfl | omega) | omega)
  have hii : ¬ (i1 : Int) < (l.length : Int) := by omega
  repeat' first
    | apply jA | apply jB | apply jC | apply jF | apply jI
    | ((first | (apply jK kO; decide) | apply jR); (simp (disch := omega) only [push_cast, simprocAttr, hS1, hZ1, hf1, hf2, hf3, hf8, hf9, hfA, hfB, hA, hii] <;> rfl); all_goals try ((with_reducible intro hI); try first | (cases hI; done) | (simp only [INTS, zL] at hI; try first | (exfalso; omega) | (have hT : True := hI; clear hT hI))))
    | ((apply jV kO; decide); (iterate 2 (simp (disch := omega) only [push_cast, simprocAttr, hS1, hZ1, hf1, hf2, hf3, hf8, hf9, hfA, hfB, hA, hii] <;> rfl)); (with_reducible exact cR); try first | rfl | (simp (disch := omega) only [push_cast, simprocAttr, hS1, hZ1, hf1, hf2, hf3, hf8, hf9, hfA, hfB, hA, hii] <;> rfl))
    | ((apply W.ret1); (iterate 2 (try (simp (disch := omega) only [push_cast, simprocAttr, hS1, hZ1, hf1, hf2, hf3, hf8, hf9, hfA, hfB, hA, hii] <;> rfl))))

  all_goals (show _ = _; rfl)
end Go.Proofs.Yt

namespace Go.Proofs.Yt
open Go Go.Pg Go.Proofs
open Go.Proofs.Hs (House Step eHouse eStep)
open Go.Proofs.Ks (Session Run Span Strike eSession eRun eSpan lSpan eStrike lStrike lSight lStop eStop lLeg eLeg eInt lInt takeM dropM leT isEmpty_map getD_map get_map drop_cons drop_nil playsE needleP Plays_ok Spans_ok spansQ spansP)
open Go.Proofs.Ds (Ink Blow eKey eInk eBlow eMark rowAt_aftF)
attribute [local push_cast] Bool.and_false Bool.and_self Bool.and_true Bool.false_and Bool.false_eq_true Bool.not_false Bool.not_true Bool.true_and List.all_append List.all_cons List.all_nil List.append_nil List.cons_append List.isEmpty_cons List.length_append List.length_cons List.length_drop List.length_nil List.length_take List.map_append List.map_cons List.map_nil List.mem_cons List.nil_append List.not_mem_nil List.take_length List.take_of_length_le Nat.add_assoc Nat.zero_add St.back TyD.isAgg and_self and_true dropM idsA idsL isEmpty_map leT natNe pureA pureL takeM true_and
attribute [local push_cast] Option.map_some idsLL if_false if_true or_true rowAt_aftF true_or
def inB : Code → Code
  | .block _ c => c
  | .loop c => c
  | c => c
def fstS : Code → Code
  | .seq a _ => a
  | c => c
noncomputable def bodyB : Code := inB (fstS (dropS 1 (inB (inB (dropS 1 (fstS (dropS 6 (Tryz.f3.body.getD .skip))))))))
noncomputable def tailM : Code := dropS 2 bodyB
noncomputable def tailE : Code := dropS 4 tailM
noncomputable def tailF : Code := dropS 1 tailE
theorem fin_ok (h : House) (F t : Int) (steps : List Step) (ses : Session) (x : Run) (keys : List Ds.Key) (ink : Ink) (l : List Hit) (wall : List Int) (PL : List (Int × Int)) (k1 ls1 la1 : Nat) (S1 : List Strike) (A1 : List Int) (a0 b0 : Int) (p : Span) (j2 sp : Nat) {Q : Exit → St → Prop} (hnorm : ∀ s : St, 7 ≤ s.nx → (s.tm 1 = ai F ∧ s.tm 2 = ai t ∧ s.tm 3 = .lst (steps.map eStep) ∧ s.tm 6 = lKey keys ∧ s.tm 8 = .lst (l.map eHit) ∧ s.tm 9 = lInt wall ∧ s.tm 10 = .ptr 0 0 0 1 ∧ s.tm 14 = .ptr 1 0 0 1 ∧ s.tm 15 = .ptr 2 0 0 1 ∧ s.tm 17 = .ptr 3 0 0 1 ∧ s.tm 21 = .lst (PL.map ePl) ∧ s.tm 23 = .ptr 4 0 0 1 ∧ s.tm 24 = .ref 6 0 (k1 + 1) ∧ s.tm 25 = ai k1 ∧ Pg.rowAt s.H (0) = some ({ k := 3, es := [eHouse h], ty := 26 }) ∧ Pg.rowAt s.H (1) = some ({ k := 12, es := [eSession ses], ty := 32 }) ∧ Pg.rowAt s.H (2) = some ({ k := 3, es := [eRun x], ty := 35 }) ∧ Pg.rowAt s.H (3) = some ({ k := 3, es := [eInk ink], ty := 38 }) ∧ Pg.rowAt s.H (4) = some ({ k := 14, es := [[ai ses.id, ai ses.inn.lo, ai ses.inn.hi, ai ses.out.lo, ai ses.out.hi, ai ses.zero.lo, ai ses.zero.hi, ai ses.fin.lo, ai ses.fin.hi, ai ses.rate.lo, ai ses.rate.hi, lStop ses.stops, .ref 5 0 (k1 + 1), .v (.slice none 0 0)]], ty := 50 }) ∧ Pg.rowAt s.H (5) = some ({ k := 3, es := (S1 ++ [(⟨(k1 : Int) + 1, p⟩ : Strike)]).map eStrike, ty := 70, lo := (k1 + 1) }) ∧ Pg.rowAt s.H (6) = some ({ k := 1, es := (A1 ++ [a0]).map eInt, ty := 3, lo := (k1 + 1) })) → Q .normal s) (hS1 : S1.length = k1) (hA1 : A1.length = k1) (hls : ls1 ≤ k1) (hla : la1 ≤ k1) (hk : k1 < l.length) (hl6 : l.length ≤ 6) (hs20 : steps.length ≤ 20)
    (hPx : (PL.map ePl)[j2]? = some [ai a0, ai b0]) (hPg : (PL.map ePl).getD j2 [] = [ai a0, ai b0]) (hPl2 : ((j2 : Int) < (PL.length : Int)) = True) {s : St} (hsp : 7 ≤ sp ∧ sp < s.nx) (hS : s.tm 1 = ai F ∧ s.tm 2 = ai t ∧ s.tm 3 = .lst (steps.map eStep) ∧ s.tm 6 = lKey keys ∧ s.tm 8 = .lst (l.map eHit) ∧ s.tm 9 = lInt wall ∧ s.tm 10 = .ptr 0 0 0 1 ∧ s.tm 14 = .ptr 1 0 0 1 ∧ s.tm 15 = .ptr 2 0 0 1 ∧ s.tm 17 = .ptr 3 0 0 1 ∧ s.tm 21 = .lst (PL.map ePl) ∧ s.tm 23 = .ptr 4 0 0 1 ∧ s.tm 24 = .ref 6 0 k1 ∧ s.tm 25 = ai k1 ∧ s.tm 29 = .ptr sp 0 0 1 ∧ s.tm 31 = ai j2 ∧ Pg.rowAt s.H (0) = some ({ k := 3, es := [eHouse h], ty := 26 }) ∧ Pg.rowAt s.H (1) = some ({ k := 12, es := [eSession ses], ty := 32 }) ∧ Pg.rowAt s.H (2) = some ({ k := 3, es := [eRun x], ty := 35 }) ∧ Pg.rowAt s.H (3) = some ({ k := 3, es := [eInk ink], ty := 38 }) ∧ Pg.rowAt s.H (4) = some ({ k := 14, es := [[ai ses.id, ai ses.inn.lo, ai ses.inn.hi, ai ses.out.lo, ai ses.out.hi, ai ses.zero.lo, ai ses.zero.hi, ai ses.fin.lo, ai ses.fin.hi, ai ses.rate.lo, ai ses.rate.hi, lStop ses.stops, .ref 5 0 k1, .v (.slice none 0 0)]], ty := 50 }) ∧ Pg.rowAt s.H (5) = some ({ k := 3, es := S1.map eStrike, ty := 70, lo := ls1 }) ∧ Pg.rowAt s.H (6) = some ({ k := 1, es := A1.map eInt, ty := 3, lo := la1 }) ∧ Pg.rowAt s.H (sp) = some ({ k := 2, es := [eSpan p], ty := 29 })) : AW cx 404 tailF Q s := by
  have hf1 : ∀ l x, flatA (.tup [.lst l, .v x]) = false := fun _ _ => rfl
  have hf2 : ∀ l, flatA (.lst l) = false := fun _ => rfl
  have hf3 : ∀ x, flatA (.v x) = true := fun _ => rfl
  have hf8 : ∀ x y, flatA (.tup [.v x, .v y]) = true := fun _ _ => rfl
  have hf9 : ∀ l x, flatA (.tup [.lst l, .v x]) = false := fun _ _ => rfl
  have hfA : ∀ a b c d e f g, flatA (.tup [.agg [.v a, .v b, .v c, .v d, .v e], .v f, .v g]) = true := fun _ _ _ _ _ _ _ => rfl
  have hfB : ∀ a b c, flatA (.tup [.agg [.v a, .v b], .v c]) = true := fun _ _ _ => rfl
  have hZ : (0 : Nat) ≠ s.nx ∧ s.nx ≠ (0 : Nat) ∧ (1 : Nat) ≠ s.nx ∧ s.nx ≠ (1 : Nat) ∧ (2 : Nat) ≠ s.nx ∧ s.nx ≠ (2 : Nat) ∧ (3 : Nat) ≠ s.nx ∧ s.nx ≠ (3 : Nat) ∧ (4 : Nat) ≠ s.nx ∧ s.nx ≠ (4 : Nat) ∧ (5 : Nat) ≠ s.nx ∧ s.nx ≠ (5 : Nat) ∧ (6 : Nat) ≠ s.nx ∧ s.nx ≠ (6 : Nat) ∧ (sp : Nat) ≠ s.nx ∧ s.nx ≠ (sp : Nat) := by omega
  have hP : (0 : Nat) ≠ sp ∧ (1 : Nat) ≠ sp ∧ (2 : Nat) ≠ sp ∧ (3 : Nat) ≠ sp ∧ (4 : Nat) ≠ sp ∧ (5 : Nat) ≠ sp ∧ (6 : Nat) ≠ sp ∧ sp ≠ 0 ∧ sp ≠ 1 ∧ sp ≠ 2 ∧ sp ≠ 3 ∧ sp ≠ 4 ∧ sp ≠ 5 ∧ sp ≠ 6 := by omega
  suffices hgoal : AW cx 404 tailF (fun e s => Pg.Stop (Q e s)) s from AW.mono hgoal fun e s' h => h.get
  delta tailF tailE tailM bodyB
  simp only [Tryz.f3, Option.getD_some, dropS, inB, fstS]
  repeat' first
    | apply jA | apply jB | apply jI
    | ((first | (apply jK kO; decide) | apply jM kO); (simp (disch := (first | omega | (simp only [vC]; omega))) only [push_cast, simprocAttr, hS, hZ, hP, hS1, hA1, hf1, hf2, hf3, hf8, hf9, hfA, hfB, hPx, hPg, hPl2] <;> rfl))
    | (apply jT kO; decide; rfl; rfl; rfl; decide; (iterate 3 (simp (disch := (first | omega | (simp only [vC]; omega))) only [push_cast, simprocAttr, hS, hZ, hP, hS1, hA1, hf1, hf2, hf3, hf8, hf9, hfA, hfB, hPx, hPg, hPl2] <;> rfl)); (first | (focus (simp; done)) | (intro c hc; obtain ⟨x, _, rfl⟩ := List.mem_map.1 hc; rfl)); ((first | rfl | simp (disch := omega) only [push_cast])); ((try dsimp only); (try simp only [vC]); omega); ((try dsimp only); (try simp only [vC]); omega))

  all_goals (refine Pg.Stop.mk (hnorm _ ?_ ⟨?_, ?_, ?_, ?_, ?_, ?_, ?_, ?_, ?_, ?_, ?_, ?_, ?_, ?_, ?_, ?_, ?_, ?_, ?_, ?_, ?_⟩); all_goals first | (simp (disch := omega) only [push_cast, simprocAttr, hS, hZ, hP, hS1, hA1, appRow, hf1, hf2, hf3, hf8, hf9, hfA, hfB] <;> first | rfl | omega) | omega)
end Go.Proofs.Yt
