/- A heap in a list: plain laws. -/
import Derived.Test.YtfaeemahdkobfaaOps5
namespace Go.Proofs.Ytfaeemahdkobfaa
set_option linter.unusedVariables false
/-- heap's item -/
structure HI where
  key : Int
  id : Int
def HI.enc (x : HI) : List Value := [.int .i64 x.key, .int .i64 x.id]
theorem HI.enc_len (x : HI) : x.enc.length = 2 := rfl
def ahead (a b : HI) : Bool := decide (a.key < b.key) || ((a.key == b.key) && decide (a.id < b.id))
theorem ahead_iff {a b : HI} : ahead a b = true ↔ a.key < b.key ∨ (a.key = b.key ∧ a.id < b.id) := by
  simp [ahead]
theorem ahead_false {a b : HI} : ahead a b = false ↔ ¬ (a.key < b.key ∨ (a.key = b.key ∧ a.id < b.id)) := by
  rw [← ahead_iff]; simp
theorem ahead_irr (a : HI) : ahead a a = false := by rw [ahead_false]; omega
theorem ahead_asym {a b : HI} (h : ahead a b = true) : ahead b a = false := by rw [ahead_iff] at h; rw [ahead_false]; omega
theorem nahead_trans {a b c : HI} (h : ahead a b = false) (k : ahead b c = false) : ahead a c = false := by rw [ahead_false] at *; omega
theorem ahead_tot {a b : HI} (h : ahead a b = false) (k : ahead b a = false) : a = b := by
  rw [ahead_false] at *
  cases a; cases b
  simp only [HI.mk.injEq] at *
  omega
theorem ahead_nahead {a b c : HI} (h : ahead a b = true) (k : ahead c b = false) : ahead c a = false := by rw [ahead_iff] at h; rw [ahead_false] at *; omega
def par (i : Nat) : Nat := (i - 1) / 2
/-- in g, of n items: none is ahead of the one above it, but for n and those below n -/
structure Exc (g : Nat → HI) (len n : Nat) : Prop where
  a : ∀ i, 0 < i → i < len → i ≠ n → par i ≠ n → ahead (g i) (g (par i)) = false
  b : 0 < n → ∀ i, 0 < i → i < len → par i = n → ahead (g i) (g (par n)) = false
/-- but for those below n -/
structure Dn (g : Nat → HI) (len n : Nat) : Prop where
  a : ∀ i, 0 < i → i < len → par i ≠ n → ahead (g i) (g (par i)) = false
  b : 0 < n → ∀ i, 0 < i → i < len → par i = n → ahead (g i) (g (par n)) = false
def Hpd (g : Nat → HI) (len : Nat) : Prop := ∀ i, 0 < i → i < len → ahead (g i) (g (par i)) = false
def sw (g : Nat → HI) (a b : Nat) : Nat → HI := fun i => if i = b then g a else if i = a then g b else g i
theorem Exc.of_heap {g : Nat → HI} {len n : Nat} (h : Hpd g len) (x : HI) : Exc (fun i => if i = n then x else g i) len n := by
  refine ⟨fun i h0 hi hin hpn => ?_, fun hn i h0 hi hpn => ?_⟩
  · simp only [if_neg hin, if_neg hpn]
    exact h i h0 hi
  · have h1 : i ≠ n := fun e => by subst e; unfold par at hpn; omega
    have h2 : par n ≠ n := fun e => by unfold par at e; omega
    simp only [if_neg h1, if_neg h2]
    by_cases hl : n < len
    · have e1 := h i h0 hi
      rw [hpn] at e1
      exact nahead_trans e1 (h n hn hl)
    · unfold par at hpn; omega
theorem Exc.up {g : Nat → HI} {len n : Nat} (h : Exc g len n) (hn : 0 < n) (hl : n < len) (ha : ahead (g n) (g (par n)) = true) : Exc (sw g n (par n)) len (par n) := by
  have hp : par n < n := by unfold par; omega
  have hpn : par n ≠ n := by omega
  refine ⟨fun i h0 hi hip hpp => ?_, fun hq i h0 hi hpi => ?_⟩
  · unfold sw
    by_cases hin : i = n
    · subst hin; exact absurd rfl hpp
    · rw [if_neg hip, if_neg hin, if_neg hpp]
      by_cases hpi : par i = n
      · rw [if_pos hpi]; exact h.b hn i h0 hi hpi
      · rw [if_neg hpi]; exact h.a i h0 hi hin hpi
  · have hq2 : par (par n) < par n := by unfold par at *; omega
    unfold sw
    rw [if_neg (show par (par n) ≠ par n by omega), if_neg (show par (par n) ≠ n by omega)]
    have e1 := h.a (par n) hq (by omega) (by omega) (by omega)
    by_cases hin : i = n
    · subst hin; rw [if_neg (by omega), if_pos rfl]; exact e1
    · rw [if_neg (show i ≠ par n from fun e => by rw [e] at hpi; omega), if_neg hin]
      have e2 := h.a i h0 hi hin (by omega)
      rw [hpi] at e2
      exact nahead_trans e2 e1
theorem Exc.stop {g : Nat → HI} {len n : Nat} (h : Exc g len n) (hs : n = 0 ∨ ahead (g n) (g (par n)) = false) : Dn g len n :=
  ⟨fun i h0 hi hpn => by
    by_cases hin : i = n
    · subst hin
      rcases hs with h1 | h1
      · omega
      · exact h1
    · exact h.a i h0 hi hin hpn, h.b⟩
theorem Dn.down {g : Nat → HI} {len n c : Nat} (h : Dn g len n) (hc0 : 0 < c) (hc : c < len) (hp : par c = n) (ha : ahead (g c) (g n) = true) (hb : ∀ i, 0 < i → i < len → par i = n → ahead (g i) (g c) = false) : Dn (sw g n c) len c := by
  have hnc : n < c := by unfold par at hp; omega
  refine ⟨fun i h0 hi hpc => ?_, fun hq i h0 hi hpi => ?_⟩
  · unfold sw
    rw [if_neg hpc]
    by_cases hic : i = c
    · subst hic; rw [if_pos rfl, if_pos hp]; exact ahead_asym ha
    · rw [if_neg hic]
      by_cases hin : i = n
      · subst hin
        rw [if_pos rfl, if_neg (show par i ≠ i by unfold par; omega)]
        have := h.b h0 c hc0 hc hp
        exact this
      · rw [if_neg hin]
        by_cases hpn : par i = n
        · rw [if_pos hpn]; exact hb i h0 hi hpn
        · rw [if_neg hpn]; exact h.a i h0 hi hpn
  · unfold sw
    have hi2 : c < i := by unfold par at hpi; omega
    rw [if_neg (show i ≠ c by omega), if_neg (show i ≠ n by omega), hp, if_neg (show n ≠ c by omega), if_pos rfl]
    have := h.a i h0 hi (by omega)
    rw [hpi] at this; exact this
theorem Dn.stop {g : Nat → HI} {len n : Nat} (h : Dn g len n) (hs : ∀ i, 0 < i → i < len → par i = n → ahead (g i) (g n) = false) : Hpd g len := fun i h0 hi => by
  by_cases hp : par i = n
  · rw [hp]; exact hs i h0 hi hp
  · exact h.a i h0 hi hp
theorem Hpd.top {g : Nat → HI} {len : Nat} (h : Hpd g len) : ∀ i, i < len → ahead (g i) (g 0) = false := by
  intro i
  induction i using Nat.strongRecOn with
  | _ i ih =>
    intro hi
    rcases Nat.eq_zero_or_pos i with rfl | h0
    · exact ahead_irr _
    · have hp : par i < i := by unfold par; omega
      exact nahead_trans (h i h0 hi) (ih _ hp (by omega))
theorem Hpd.less {g : Nat → HI} {len m : Nat} (h : Hpd g len) (hm : m ≤ len) : Hpd g m := fun i h0 hi => h i h0 (by omega)
theorem Hpd.congr {g g' : Nat → HI} {len : Nat} (h : Hpd g len) (hg : ∀ i, i < len → g' i = g i) : Hpd g' len := fun i h0 hi => by
  rw [hg i hi, hg (par i) (by unfold par; omega)]; exact h i h0 hi
theorem Exc.congr {g g' : Nat → HI} {len n : Nat} (h : Exc g len n) (hn : n < len) (hg : ∀ i, i < len → g' i = g i) : Exc g' len n :=
  ⟨fun i h0 hi h1 h2 => by rw [hg i hi, hg (par i) (by unfold par; omega)]; exact h.a i h0 hi h1 h2, fun hn' i h0 hi h1 => by rw [hg i hi, hg (par n) (by unfold par; omega)]; exact h.b hn' i h0 hi h1⟩
theorem Dn.congr {g g' : Nat → HI} {len n : Nat} (h : Dn g len n) (hn : n < len) (hg : ∀ i, i < len → g' i = g i) : Dn g' len n :=
  ⟨fun i h0 hi h1 => by rw [hg i hi, hg (par i) (by unfold par; omega)]; exact h.a i h0 hi h1, fun hn' i h0 hi h1 => by rw [hg i hi, hg (par n) (by unfold par; omega)]; exact h.b hn' i h0 hi h1⟩
/-! ### lists -/
def gt (arr : List HI) : Nat → HI := fun i => arr.getD i ⟨0, 0⟩
def swL (arr : List HI) (a b : Nat) : List HI := (arr.set a (gt arr b)).set b (gt arr a)
theorem gt_get {arr : List HI} {i : Nat} (h : i < arr.length) : arr[i]? = some (gt arr i) := by
  unfold gt; rw [List.getD_eq_getElem?_getD, List.getElem?_eq_getElem h]; rfl
theorem swL_len (arr : List HI) (a b : Nat) : (swL arr a b).length = arr.length := by simp [swL]
theorem swL_get {arr : List HI} {a b : Nat} (ha : a < arr.length) (hb : b < arr.length) (i : Nat) (hi : i < arr.length) : gt (swL arr a b) i = sw (gt arr) a b i := by
  unfold swL sw
  conv => lhs; unfold gt
  rw [List.getD_eq_getElem?_getD, List.getElem?_set, List.getElem?_set]
  by_cases h1 : i = b
  · subst h1; simp [hi]; rfl
  · rw [if_neg (Ne.symm h1), if_neg h1]
    by_cases h2 : i = a
    · subst h2; simp [hi]; rfl
    · rw [if_neg (Ne.symm h2), if_neg h2, gt_get hi]; rfl
theorem swL_perm {arr : List HI} {a b : Nat} (ha : a < arr.length) (hb : b < arr.length) : (swL arr a b).Perm arr := by
  have := List.set_set_perm ha hb
  have e1 : gt arr b = arr[b] := by have := gt_get hb; rw [List.getElem?_eq_getElem hb] at this; exact (Option.some.inj this).symm
  have e2 : gt arr a = arr[a] := by have := gt_get ha; rw [List.getElem?_eq_getElem ha] at this; exact (Option.some.inj this).symm
  unfold swL
  rw [e1, e2]; exact this
def Nd (arr : List HI) : Prop := (arr.map (·.id)).Nodup
theorem Nd.perm {a b : List HI} (h : Nd a) (p : a.Perm b) : Nd b := (p.map _).nodup_iff.1 h
/-- where each id stands -/
def atD (arr : List HI) : Int → Option Value := fun k => (arr.findIdx? fun x => x.id == k).map fun i => .int .i64 (i : Nat)
theorem idx_iff {arr : List HI} (h : Nd arr) {k : Int} {i : Nat} : arr.findIdx? (fun x => x.id == k) = some i ↔ ∃ x, arr[i]? = some x ∧ x.id = k := by
  rw [List.findIdx?_eq_some_iff_getElem]
  constructor
  · rintro ⟨hi, h1, _⟩
    exact ⟨arr[i], List.getElem?_eq_getElem hi, by simpa using h1⟩
  · rintro ⟨x, hx, hk⟩
    obtain ⟨hi, e⟩ := List.getElem?_eq_some_iff.1 hx
    subst e
    refine ⟨hi, by simpa using hk, fun j hj => ?_⟩
    intro hc
    have hc : arr[j].id = k := by simpa using hc
    have := List.pairwise_iff_getElem.1 h j i (by simp; omega) (by simpa using hi) hj
    apply this
    simp [hc, hk]
theorem idx_none_iff {arr : List HI} {k : Int} : arr.findIdx? (fun x => x.id == k) = none ↔ ∀ x ∈ arr, x.id ≠ k := by
  rw [List.findIdx?_eq_none_iff]; simp
theorem atD_eq {arr : List HI} (h : Nd arr) {f : Int → Option Nat} (hf : ∀ k i, f k = some i ↔ ∃ x, arr[i]? = some x ∧ x.id = k) : atD arr = fun k => (f k).map fun i => .int .i64 (i : Nat) := by
  funext k
  unfold atD
  have : arr.findIdx? (fun x => x.id == k) = f k := by
    cases hk : arr.findIdx? (fun x => x.id == k) with
    | some i => exact ((hf k i).2 ((idx_iff h).1 hk)).symm
    | none =>
      cases hfk : f k with
      | none => rfl
      | some i =>
        have := (idx_iff h).2 ((hf k i).1 hfk)
        rw [hk] at this; cases this
  rw [this]
theorem atD_swap {arr : List HI} (h : Nd arr) {a b : Nat} (ha : a < arr.length) (hb : b < arr.length) : atD (swL arr a b) = upd (upd (atD arr) (gt arr b).id (some (.int .i64 (a : Nat)))) (gt arr a).id (some (.int .i64 (b : Nat))) := by
  have hn := h.perm (swL_perm ha hb).symm
  rw [atD_eq hn (f := fun k => if k = (gt arr a).id then some b else if k = (gt arr b).id then some a else arr.findIdx? fun x => x.id == k)]
  · funext k
    unfold upd atD
    by_cases h1 : k = (gt arr a).id
    · simp [h1]
    · by_cases h2 : k = (gt arr b).id
      · have h3 : ¬ (gt arr b).id = (gt arr a).id := fun e => h1 (h2.trans e)
        simp [h2, h3]
      · simp [h1, h2]
  · intro k i
    have key : ∀ x, arr[i]? = some x → i < arr.length := fun x hx => (List.getElem?_eq_some_iff.1 hx).1
    have huniq : ∀ i j, i < arr.length → j < arr.length → (gt arr i).id = (gt arr j).id → i = j := fun i j hi hj e => by
      have e1 := (idx_iff h (k := (gt arr j).id) (i := i)).2 ⟨_, gt_get hi, e⟩
      have e2 := (idx_iff h (k := (gt arr j).id) (i := j)).2 ⟨_, gt_get hj, rfl⟩
      rw [e1] at e2; exact Option.some.inj e2
    constructor
    · intro hf
      by_cases h1 : k = (gt arr a).id
      · rw [if_pos h1] at hf; cases hf
        refine ⟨_, gt_get (by rw [swL_len]; exact hb), ?_⟩
        rw [swL_get ha hb _ hb]; simp [sw, h1]
      · rw [if_neg h1] at hf
        by_cases h2 : k = (gt arr b).id
        · rw [if_pos h2] at hf; cases hf
          refine ⟨_, gt_get (by rw [swL_len]; exact ha), ?_⟩
          rw [swL_get ha hb _ ha]
          unfold sw
          by_cases hab : a = b
          · subst hab; simp [h2]
          · rw [if_neg hab, if_pos rfl, h2]
        · rw [if_neg h2] at hf
          obtain ⟨x, hx, hk⟩ := (idx_iff h).1 hf
          have hi := key x hx
          rw [gt_get hi] at hx; cases hx
          refine ⟨_, gt_get (by rw [swL_len]; exact hi), ?_⟩
          rw [swL_get ha hb _ hi]
          unfold sw
          rw [if_neg (fun e => h2 (by rw [← hk, e])), if_neg (fun e => h1 (by rw [← hk, e]))]
          exact hk
    · rintro ⟨x, hx, hk⟩
      have hi : i < arr.length := by have := (List.getElem?_eq_some_iff.1 hx).1; rwa [swL_len] at this
      rw [gt_get (by rw [swL_len]; exact hi)] at hx; cases hx
      rw [swL_get ha hb _ hi] at hk
      unfold sw at hk
      by_cases h1 : i = b
      · subst h1; rw [if_pos rfl] at hk; rw [if_pos hk.symm]
      · rw [if_neg h1] at hk
        by_cases h2 : i = a
        · subst h2
          rw [if_pos rfl] at hk
          rw [if_neg (fun e => h1 (huniq _ _ hi hb (by rw [← e, hk]))), if_pos hk.symm]
        · rw [if_neg h2] at hk
          rw [if_neg (fun e => h2 (huniq _ _ hi ha (by rw [← e, hk]))), if_neg (fun e => h1 (huniq _ _ hi hb (by rw [← e, hk])))]
          exact (idx_iff h).2 ⟨_, gt_get hi, hk⟩
end Go.Proofs.Ytfaeemahdkobfaa
