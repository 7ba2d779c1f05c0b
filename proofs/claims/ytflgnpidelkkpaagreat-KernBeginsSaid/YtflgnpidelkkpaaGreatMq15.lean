/- part 15 of the proof: contracts of the functions that the law reaches, and plain laws. -/
import Derived.Test.YtflgnpidelkkpaaGreatMq6
import Derived.Test.YtflgnpidelkkpaaGreatMq7
import Derived.Test.YtflgnpidelkkpaaGreatMq8
namespace Go.Proofs.YtflgnpidelkkpaaGreat
set_option maxRecDepth 8000
set_option maxHeartbeats 1000000
set_option linter.unusedVariables false
structure HI where
  key : Int
  id : Int
def HI.enc (x : HI) : List Value := [.int .i64 x.key, .int .i64 x.id]
theorem HI.enc_len (x : HI) : x.enc.length = 2 := rfl
def ahead (a b : HI) : Bool := decide (a.key < b.key) || ((a.key == b.key) && decide (a.id < b.id))
theorem ahead_iff {a b : HI} : ahead a b = true ↔ a.key < b.key ∨ (a.key = b.key ∧ a.id < b.id) := by
  simp [ahead]
theorem ahead_false {a b : HI} : ahead a b = false ↔ ¬ (a.key < b.key ∨ (a.key = b.key ∧ a.id < b.id)) := by
  rw [← ahead_iff]; simp
theorem ahead_irr (a : HI) : ahead a a = false := by rw [ahead_false]; omega
theorem ahead_asym {a b : HI} (h : ahead a b = true) : ahead b a = false := by rw [ahead_iff] at h; rw [ahead_false]; omega
theorem nahead_trans {a b c : HI} (h : ahead a b = false) (k : ahead b c = false) : ahead a c = false := by rw [ahead_false] at *; omega
theorem ahead_tot {a b : HI} (h : ahead a b = false) (k : ahead b a = false) : a = b := by
  rw [ahead_false] at *
  cases a; cases b
  simp only [HI.mk.injEq] at *
  omega
def par (i : Nat) : Nat := (i - 1) / 2
structure Exc (g : Nat → HI) (len n : Nat) : Prop where
  a : ∀ i, 0 < i → i < len → i ≠ n → par i ≠ n → ahead (g i) (g (par i)) = false
  b : 0 < n → ∀ i, 0 < i → i < len → par i = n → ahead (g i) (g (par n)) = false
structure Dn (g : Nat → HI) (len n : Nat) : Prop where
  a : ∀ i, 0 < i → i < len → par i ≠ n → ahead (g i) (g (par i)) = false
  b : 0 < n → ∀ i, 0 < i → i < len → par i = n → ahead (g i) (g (par n)) = false
def Hpd (g : Nat → HI) (len : Nat) : Prop := ∀ i, 0 < i → i < len → ahead (g i) (g (par i)) = false
def sw (g : Nat → HI) (a b : Nat) : Nat → HI := fun i => if i = b then g a else if i = a then g b else g i
theorem Exc.of_heap {g : Nat → HI} {len n : Nat} (h : Hpd g len) (x : HI) : Exc (fun i => if i = n then x else g i) len n := by
  refine ⟨fun i h0 hi hin hpn => ?_, fun hn i h0 hi hpn => ?_⟩
  · simp only [if_neg hin, if_neg hpn]
    exact h i h0 hi
  · have h1 : i ≠ n := fun e => by subst e; unfold par at hpn; omega
    have h2 : par n ≠ n := fun e => by unfold par at e; omega
    simp only [if_neg h1, if_neg h2]
    by_cases hl : n < len
    · have e1 := h i h0 hi
      rw [hpn] at e1
      exact nahead_trans e1 (h n hn hl)
    · unfold par at hpn; omega
theorem Exc.up {g : Nat → HI} {len n : Nat} (h : Exc g len n) (hn : 0 < n) (hl : n < len) (ha : ahead (g n) (g (par n)) = true) : Exc (sw g n (par n)) len (par n) := by
  have hp : par n < n := by unfold par; omega
  have hpn : par n ≠ n := by omega
  refine ⟨fun i h0 hi hip hpp => ?_, fun hq i h0 hi hpi => ?_⟩
  · unfold sw
    by_cases hin : i = n
    · subst hin; exact absurd rfl hpp
    · rw [if_neg hip, if_neg hin, if_neg hpp]
      by_cases hpi : par i = n
      · rw [if_pos hpi]; exact h.b hn i h0 hi hpi
      · rw [if_neg hpi]; exact h.a i h0 hi hin hpi
  · have hq2 : par (par n) < par n := by unfold par at *; omega
    unfold sw
    rw [if_neg (show par (par n) ≠ par n by omega), if_neg (show par (par n) ≠ n by omega)]
    have e1 := h.a (par n) hq (by omega) (by omega) (by omega)
    by_cases hin : i = n
    · subst hin; rw [if_neg (by omega), if_pos rfl]; exact e1
    · rw [if_neg (show i ≠ par n from fun e => by rw [e] at hpi; omega), if_neg hin]
      have e2 := h.a i h0 hi hin (by omega)
      rw [hpi] at e2
      exact nahead_trans e2 e1
theorem Exc.stop {g : Nat → HI} {len n : Nat} (h : Exc g len n) (hs : n = 0 ∨ ahead (g n) (g (par n)) = false) : Dn g len n :=
  ⟨fun i h0 hi hpn => by
    by_cases hin : i = n
    · subst hin
      rcases hs with h1 | h1
      · omega
      · exact h1
    · exact h.a i h0 hi hin hpn, h.b⟩
theorem Dn.down {g : Nat → HI} {len n c : Nat} (h : Dn g len n) (hc0 : 0 < c) (hc : c < len) (hp : par c = n) (ha : ahead (g c) (g n) = true) (hb : ∀ i, 0 < i → i < len → par i = n → ahead (g i) (g c) = false) : Dn (sw g n c) len c := by
  have hnc : n < c := by unfold par at hp; omega
  refine ⟨fun i h0 hi hpc => ?_, fun hq i h0 hi hpi => ?_⟩
  · unfold sw
    rw [if_neg hpc]
    by_cases hic : i = c
    · subst hic; rw [if_pos rfl, if_pos hp]; exact ahead_asym ha
    · rw [if_neg hic]
      by_cases hin : i = n
      · subst hin
        rw [if_pos rfl, if_neg (show par i ≠ i by unfold par; omega)]
        have := h.b h0 c hc0 hc hp
        exact this
      · rw [if_neg hin]
        by_cases hpn : par i = n
        · rw [if_pos hpn]; exact hb i h0 hi hpn
        · rw [if_neg hpn]; exact h.a i h0 hi hpn
  · unfold sw
    have hi2 : c < i := by unfold par at hpi; omega
    rw [if_neg (show i ≠ c by omega), if_neg (show i ≠ n by omega), hp, if_neg (show n ≠ c by omega), if_pos rfl]
    have := h.a i h0 hi (by omega)
    rw [hpi] at this; exact this
theorem Dn.stop {g : Nat → HI} {len n : Nat} (h : Dn g len n) (hs : ∀ i, 0 < i → i < len → par i = n → ahead (g i) (g n) = false) : Hpd g len := fun i h0 hi => by
  by_cases hp : par i = n
  · rw [hp]; exact hs i h0 hi hp
  · exact h.a i h0 hi hp
theorem Hpd.top {g : Nat → HI} {len : Nat} (h : Hpd g len) : ∀ i, i < len → ahead (g i) (g 0) = false := by
  intro i
  induction i using Nat.strongRecOn with
  | _ i ih =>
    intro hi
    rcases Nat.eq_zero_or_pos i with rfl | h0
    · exact ahead_irr _
    · have hp : par i < i := by unfold par; omega
      exact nahead_trans (h i h0 hi) (ih _ hp (by omega))
theorem Hpd.less {g : Nat → HI} {len m : Nat} (h : Hpd g len) (hm : m ≤ len) : Hpd g m := fun i h0 hi => h i h0 (by omega)
theorem Hpd.congr {g g' : Nat → HI} {len : Nat} (h : Hpd g len) (hg : ∀ i, i < len → g' i = g i) : Hpd g' len := fun i h0 hi => by
  rw [hg i hi, hg (par i) (by unfold par; omega)]; exact h i h0 hi
theorem Exc.congr {g g' : Nat → HI} {len n : Nat} (h : Exc g len n) (hn : n < len) (hg : ∀ i, i < len → g' i = g i) : Exc g' len n :=
  ⟨fun i h0 hi h1 h2 => by rw [hg i hi, hg (par i) (by unfold par; omega)]; exact h.a i h0 hi h1 h2, fun hn' i h0 hi h1 => by rw [hg i hi, hg (par n) (by unfold par; omega)]; exact h.b hn' i h0 hi h1⟩
theorem Dn.congr {g g' : Nat → HI} {len n : Nat} (h : Dn g len n) (hn : n < len) (hg : ∀ i, i < len → g' i = g i) : Dn g' len n :=
  ⟨fun i h0 hi h1 => by rw [hg i hi, hg (par i) (by unfold par; omega)]; exact h.a i h0 hi h1, fun hn' i h0 hi h1 => by rw [hg i hi, hg (par n) (by unfold par; omega)]; exact h.b hn' i h0 hi h1⟩
def gt (arr : List HI) : Nat → HI := fun i => arr.getD i ⟨0, 0⟩
def swL (arr : List HI) (a b : Nat) : List HI := (arr.set a (gt arr b)).set b (gt arr a)
theorem gt_get {arr : List HI} {i : Nat} (h : i < arr.length) : arr[i]? = some (gt arr i) := by
  unfold gt; rw [List.getD_eq_getElem?_getD, List.getElem?_eq_getElem h]; rfl
theorem swL_len (arr : List HI) (a b : Nat) : (swL arr a b).length = arr.length := by simp [swL]
theorem swL_get {arr : List HI} {a b : Nat} (ha : a < arr.length) (hb : b < arr.length) (i : Nat) (hi : i < arr.length) : gt (swL arr a b) i = sw (gt arr) a b i := by
  unfold swL sw
  conv => lhs; unfold gt
  rw [List.getD_eq_getElem?_getD, List.getElem?_set, List.getElem?_set]
  by_cases h1 : i = b
  · subst h1; simp [hi]; rfl
  · rw [if_neg (Ne.symm h1), if_neg h1]
    by_cases h2 : i = a
    · subst h2; simp [hi]; rfl
    · rw [if_neg (Ne.symm h2), if_neg h2, gt_get hi]; rfl
theorem swL_perm {arr : List HI} {a b : Nat} (ha : a < arr.length) (hb : b < arr.length) : (swL arr a b).Perm arr := by
  have := List.set_set_perm ha hb
  have e1 : gt arr b = arr[b] := by have := gt_get hb; rw [List.getElem?_eq_getElem hb] at this; exact (Option.some.inj this).symm
  have e2 : gt arr a = arr[a] := by have := gt_get ha; rw [List.getElem?_eq_getElem ha] at this; exact (Option.some.inj this).symm
  unfold swL
  rw [e1, e2]; exact this
def Nd (arr : List HI) : Prop := (arr.map (·.id)).Nodup
theorem Nd.perm {a b : List HI} (h : Nd a) (p : a.Perm b) : Nd b := (p.map _).nodup_iff.1 h
def atD (arr : List HI) : Int → Option Value := fun k => (arr.findIdx? fun x => x.id == k).map fun i => .int .i64 (i : Nat)
theorem idx_iff {arr : List HI} (h : Nd arr) {k : Int} {i : Nat} : arr.findIdx? (fun x => x.id == k) = some i ↔ ∃ x, arr[i]? = some x ∧ x.id = k := by
  rw [List.findIdx?_eq_some_iff_getElem]
  constructor
  · rintro ⟨hi, h1, _⟩
    exact ⟨arr[i], List.getElem?_eq_getElem hi, by simpa using h1⟩
  · rintro ⟨x, hx, hk⟩
    obtain ⟨hi, e⟩ := List.getElem?_eq_some_iff.1 hx
    subst e
    refine ⟨hi, by simpa using hk, fun j hj => ?_⟩
    intro hc
    have hc : arr[j].id = k := by simpa using hc
    have := List.pairwise_iff_getElem.1 h j i (by simp; omega) (by simpa using hi) hj
    apply this
    simp [hc, hk]
theorem idx_none_iff {arr : List HI} {k : Int} : arr.findIdx? (fun x => x.id == k) = none ↔ ∀ x ∈ arr, x.id ≠ k := by
  rw [List.findIdx?_eq_none_iff]; simp
theorem atD_eq {arr : List HI} (h : Nd arr) {f : Int → Option Nat} (hf : ∀ k i, f k = some i ↔ ∃ x, arr[i]? = some x ∧ x.id = k) : atD arr = fun k => (f k).map fun i => .int .i64 (i : Nat) := by
  funext k
  unfold atD
  have : arr.findIdx? (fun x => x.id == k) = f k := by
    cases hk : arr.findIdx? (fun x => x.id == k) with
    | some i => exact ((hf k i).2 ((idx_iff h).1 hk)).symm
    | none =>
      cases hfk : f k with
      | none => rfl
      | some i =>
        have := (idx_iff h).2 ((hf k i).1 hfk)
        rw [hk] at this; cases this
  rw [this]
theorem atD_swap {arr : List HI} (h : Nd arr) {a b : Nat} (ha : a < arr.length) (hb : b < arr.length) : atD (swL arr a b) = upd (upd (atD arr) (gt arr b).id (some (.int .i64 (a : Nat)))) (gt arr a).id (some (.int .i64 (b : Nat))) := by
  have hn := h.perm (swL_perm ha hb).symm
  rw [atD_eq hn (f := fun k => if k = (gt arr a).id then some b else if k = (gt arr b).id then some a else arr.findIdx? fun x => x.id == k)]
  · funext k
    unfold upd atD
    by_cases h1 : k = (gt arr a).id
    · simp [h1]
    · by_cases h2 : k = (gt arr b).id
      · have h3 : ¬ (gt arr b).id = (gt arr a).id := fun e => h1 (h2.trans e)
        simp [h2, h3]
      · simp [h1, h2]
  · intro k i
    have key : ∀ x, arr[i]? = some x → i < arr.length := fun x hx => (List.getElem?_eq_some_iff.1 hx).1
    have huniq : ∀ i j, i < arr.length → j < arr.length → (gt arr i).id = (gt arr j).id → i = j := fun i j hi hj e => by
      have e1 := (idx_iff h (k := (gt arr j).id) (i := i)).2 ⟨_, gt_get hi, e⟩
      have e2 := (idx_iff h (k := (gt arr j).id) (i := j)).2 ⟨_, gt_get hj, rfl⟩
      rw [e1] at e2; exact Option.some.inj e2
    constructor
    · intro hf
      by_cases h1 : k = (gt arr a).id
      · rw [if_pos h1] at hf; cases hf
        refine ⟨_, gt_get (by rw [swL_len]; exact hb), ?_⟩
        rw [swL_get ha hb _ hb]; simp [sw, h1]
      · rw [if_neg h1] at hf
        by_cases h2 : k = (gt arr b).id
        · rw [if_pos h2] at hf; cases hf
          refine ⟨_, gt_get (by rw [swL_len]; exact ha), ?_⟩
          rw [swL_get ha hb _ ha]
          unfold sw
          by_cases hab : a = b
          · subst hab; simp [h2]
          · rw [if_neg hab, if_pos rfl, h2]
        · rw [if_neg h2] at hf
          obtain ⟨x, hx, hk⟩ := (idx_iff h).1 hf
          have hi := key x hx
          rw [gt_get hi] at hx; cases hx
          refine ⟨_, gt_get (by rw [swL_len]; exact hi), ?_⟩
          rw [swL_get ha hb _ hi]
          unfold sw
          rw [if_neg (fun e => h2 (by rw [← hk, e])), if_neg (fun e => h1 (by rw [← hk, e]))]
          exact hk
    · rintro ⟨x, hx, hk⟩
      have hi : i < arr.length := by have := (List.getElem?_eq_some_iff.1 hx).1; rwa [swL_len] at this
      rw [gt_get (by rw [swL_len]; exact hi)] at hx; cases hx
      rw [swL_get ha hb _ hi] at hk
      unfold sw at hk
      by_cases h1 : i = b
      · subst h1; rw [if_pos rfl] at hk; rw [if_pos hk.symm]
      · rw [if_neg h1] at hk
        by_cases h2 : i = a
        · subst h2
          rw [if_pos rfl] at hk
          rw [if_neg (fun e => h1 (huniq _ _ hi hb (by rw [← e, hk]))), if_pos hk.symm]
        · rw [if_neg h2] at hk
          rw [if_neg (fun e => h2 (huniq _ _ hi ha (by rw [← e, hk]))), if_neg (fun e => h1 (huniq _ _ hi hb (by rw [← e, hk])))]
          exact (idx_iff h).2 ⟨_, gt_get hi, hk⟩
end Go.Proofs.YtflgnpidelkkpaaGreat
namespace Go.Proofs.YtflgnpidelkkpaaGreat
set_option maxRecDepth 8000
set_option maxHeartbeats 1000000
set_option linter.unusedVariables false
set_option linter.unusedSimpArgs false
attribute [local irreducible] W X WL WA WB WG WO Rn Own one splice Arr Spec WQ WH Qn
def HeapO (b : Nat) (arr : List HI) (hs : List Hp) : Prop := ∃ A c m ha hm, hs = [one b (cells [.slice A arr.length c, .map (some m)] 218), ha, hm] ∧ Arr 249 2 arr.length (arr.flatMap HI.enc) A c ha ∧ MapI (atD arr) m hm ∧ Nd arr ∧ arr.length ≤ 8796093022208
theorem ahead_any (x y : HI) (F : Hp) : Spec Tryz.prog 254 [.agg x.enc.toArray, .agg y.enc.toArray] F [] fun v hs => v = .bool (ahead x y) ∧ hs = [] := by
  refine Spec.enter Tryz.func254 rfl Tryz.ntmps254 rfl fun B => ?_
  repeat' (first | refine soA ?_ | refine sxA ?_ | refine sbA ?_ | refine fun (Q : Post) hQ => ?_ | refine fun (nb : Nat) => (?_ : WL _ _ _ _ _ _ _ _ _) | (refine WL.guard rfl rfl rfl (fun h => ?_) (fun h => ?_) <;> (try dsimp only at h)))
  all_goals
    ((refine seE ?_); refine ⟨[], Keep.nil, ?_⟩)
    refine ⟨?_, rfl⟩
    simp_all [ahead]
set_option maxHeartbeats 2000000 in
theorem swap_any (b : Nat) (arr : List HI) (i j : Nat) (F : Hp) (hs : List Hp) (ho : HeapO b arr hs) (hi : i < arr.length) (hj : j < arr.length) :
    Spec Tryz.prog 253 [.pointer (some ⟨b, 0, none⟩), .int .i64 (i : Nat), .int .i64 (j : Nat)] F hs fun v hs' => v = .tuple #[] ∧ HeapO b (swL arr i j) hs' := by
  obtain ⟨A, c, m, ha, hm, rfl, harr, hmap, hnd, hbd⟩ := ho
  obtain ⟨g, sp, rfl, rfl, h1, h2, h3⟩ := harr.some (by omega)
  have gi := get_flat' HI.enc 2 HI.enc_len arr i _ sp (gt_get hi)
  have gj := get_flat' HI.enc 2 HI.enc_len arr j _ sp (gt_get hj)
  have ri := flat_room HI.enc 2 HI.enc_len arr i hi sp
  have rj := flat_room HI.enc 2 HI.enc_len arr j hj sp
  have s1 := splice_len (arr.flatMap HI.enc ++ sp) (0 + i * 2) (gt arr j).enc (by rw [HI.enc_len]; exact ri)
  have hi' : i < (swL arr i j).length := by rw [swL_len]; exact hi
  have hj' : j < (swL arr i j).length := by rw [swL_len]; exact hj
  have e1 : splice (splice (arr.flatMap HI.enc ++ sp) (0 + i * 2) (gt arr j).enc) (0 + j * 2) (gt arr i).enc = (swL arr i j).flatMap HI.enc ++ sp := by
    rw [set_flatI HI.enc 2 HI.enc_len arr i hi, set_flatI HI.enc 2 HI.enc_len _ j (by simpa using hj)]; rfl
  have ki : ((swL arr i j).flatMap HI.enc ++ sp)[0 + i * 2 + 1]? = some (.int .i64 (gt arr j).id) := by
    have := get_flat' HI.enc 2 HI.enc_len _ i _ sp (gt_get hi') 1 (.int .i64 (gt (swL arr i j) i).id) rfl
    rw [this, swL_get hi hj i hi]; unfold sw
    by_cases h : i = j
    · subst h; rw [if_pos rfl]
    · rw [if_neg h, if_pos rfl]
  have kj : ((swL arr i j).flatMap HI.enc ++ sp)[0 + j * 2 + 1]? = some (.int .i64 (gt arr i).id) := by
    have := get_flat' HI.enc 2 HI.enc_len _ j _ sp (gt_get hj') 1 (.int .i64 (gt (swL arr i j) j).id) rfl
    rw [this, swL_get hi hj j hj]; unfold sw; rw [if_pos rfl]
  have harr' : Arr 249 2 (swL arr i j).length ((swL arr i j).flatMap HI.enc) (some ⟨g, 0, none⟩) c (one g (cells ((swL arr i j).flatMap HI.enc ++ sp) 249)) :=
    Arr.mk (flat_len _ 2 HI.enc_len _) (by rw [List.length_append, flat_len _ 2 HI.enc_len, swL_len, ← flat_len _ 2 HI.enc_len arr, ← List.length_append]; exact h1) (by rw [swL_len]; exact h2) h3
  have hat := Lib.hid (atD_swap hnd hi hj)
  have hnd' := hnd.perm (swL_perm hi hj).symm
  have hlen := Lib.hid (swL_len arr i j)
  have e1 := Lib.hid e1
  have s1 := Lib.hid s1
  generalize (swL arr i j).flatMap HI.enc ++ sp = L' at *
  generalize arr.flatMap HI.enc ++ sp = L at *
  generalize arr.length = n at *
  refine Spec.enter Tryz.func253 rfl Tryz.ntmps253 rfl fun B => ?_
  repeat' (first | refine soA ?_ | refine sgA ?_ | refine sxA ?_ | refine sbA ?_ | refine fun (Q : Post) hQ => ?_ | refine fun (nb : Nat) => (?_ : WL _ _ _ _ _ _ _ _ _) | (refine WL.guard rfl rfl rfl (fun h => ?_) (fun h => ?_) <;> (try dsimp only at h)))
  refine dra [(0, [])] [(one g (cells L 249), [25, 27])] ?_
  refine drp 28 0 1 ?_
  refine drp 28 1 3 ?_
  refine drp 28 2 7 ?_
  refine drl 28 3 0 15 ?_
  refine drp 28 4 31 ?_
  refine drp 28 5 63 ?_
  refine drp 28 6 127 ?_
  refine drp 28 7 255 ?_
  refine drl 28 8 0 511 ?_
  refine drp 28 9 1023 ?_
  refine drp 28 10 2047 ?_
  refine drp 28 11 4095 ?_
  refine drp 28 12 8191 ?_
  refine drl 28 13 0 16383 ?_
  refine drp 28 14 32767 ?_
  refine drp 28 15 65535 (hy := by (exact Rn.indexAddr j rfl rfl rfl hj)) ?_
  refine drl 28 16 1 131071 (hy := by (exact Rn.loadS rfl (CellsAt.mk At.one gj) rfl)) ?_
  refine drp 28 17 262143 ?_
  refine drp 28 18 524287 ?_
  refine drp 28 19 1048575 ?_
  refine drl 28 20 0 2097151 ?_
  refine drp 28 21 4194303 ?_
  refine drp 28 22 8388607 (hy := by (exact Rn.indexAddr i rfl rfl rfl hi)) ?_
  refine drl 28 23 1 16777215 (hy := by (exact Rn.loadS rfl (CellsAt.mk At.one gi) rfl)) ?_
  refine drp 28 24 33554431 (hy := by (exact Rn.indexAddr i rfl rfl rfl hi)) ?_
  refine dr1 25 ?_
  refine drf 28 25 67108863 ?_
  (apply WO.storeC (l := L) (vs := (gt arr j).enc) (b := g) (o := 0 + i * 2); (exact rfl); (exact rfl); (exact rfl); (exact rfl); (exact rfl); (exact rpA); (exact ri))
  refine ⟨piA, ?_⟩
  refine drp 28 26 134217727 (hy := by (exact Rn.indexAddr j rfl rfl rfl hj)) ?_
  refine dr1 27 ?_
  refine drf 28 27 268435455 ?_
  (apply WO.storeC (l := splice L (0 + i * 2) (gt arr j).enc) (vs := (gt arr i).enc) (b := g) (o := 0 + j * 2); (exact rfl); (exact rfl); (exact rfl); (exact rfl); (exact rfl); (exact rpA); (rw [s1.out]; exact rj))
  refine ⟨piA, ?_⟩
  refine drz ?_
  rw [e1.out]
  repeat' (first | refine soA ?_ | refine sgA ?_ | refine sxA ?_ | refine sbA ?_ | refine fun (Q : Post) hQ => ?_ | refine fun (nb : Nat) => (?_ : WL _ _ _ _ _ _ _ _ _) | (refine WL.guard rfl rfl rfl (fun h => ?_) (fun h => ?_) <;> (try dsimp only at h)))
  refine dra [(0, [])] [(one g (cells L' 249), [])] ?_
  refine drp 32 0 1 ?_
  refine drp 32 1 3 ?_
  refine drp 32 2 7 ?_
  refine drl 32 3 0 15 ?_
  refine drp 32 4 31 ?_
  refine drp 32 5 63 ?_
  refine drp 32 6 127 ?_
  refine drl 32 7 0 255 ?_
  refine drp 32 8 511 ?_
  refine drp 32 9 1023 (hy := by (exact Rn.indexAddr i rfl rfl rfl hi)) ?_
  refine drp 32 10 2047 ?_
  refine drl 32 11 1 4095 (hy := by (exact Rn.load rfl (.mk At.one ki))) ?_
  refine drp 32 12 8191 ?_
  refine drp 32 13 16383 ?_
  refine drp 32 14 32767 ?_
  refine drl 32 15 0 65535 ?_
  refine drp 32 16 131071 ?_
  refine drp 32 17 262143 ?_
  refine drp 32 18 524287 ?_
  refine drl 32 19 0 1048575 ?_
  refine drp 32 20 2097151 ?_
  refine drp 32 21 4194303 (hy := by (exact Rn.indexAddr j rfl rfl rfl hj)) ?_
  refine drp 32 22 8388607 ?_
  refine drl 32 23 1 16777215 (hy := by (exact Rn.load rfl (.mk At.one kj))) ?_
  refine drp 32 24 33554431 ?_
  refine drp 32 25 67108863 ?_
  refine dr1 26 ?_
  refine dre 32 26 134217727 ?_
  (apply WO.mapEntry (h := hm); (exact rfl); (exact rfl); (exact tkA); (exact hmap); intro v1 s1' h1' me1)
  refine ⟨piA, ?_⟩
  refine drp 32 27 268435455 ?_
  refine dr1 28 ?_
  refine drf 32 28 536870911 ?_
  (apply WO.entryStore (h := h1'); (exact rfl); (exact rfl); (exact rfl); (exact tkA); (exact me1); intro h2' mi2)
  refine ⟨piA, ?_⟩
  refine dr1 29 ?_
  refine dre 32 29 1073741823 ?_
  (apply WO.mapEntry (h := h2'); (exact rfl); (exact rfl); (exact tkA); (exact mi2); intro v3 s3 h3' me3)
  refine ⟨piA, ?_⟩
  refine drp 32 30 2147483647 ?_
  refine dr1 31 ?_
  refine drf 32 31 4294967295 ?_
  (apply WO.entryStore (h := h3'); (exact rfl); (exact rfl); (exact rfl); (exact tkA); (exact me3); intro h4' mi4)
  refine ⟨piA, ?_⟩
  refine drz ?_
  repeat' (first | refine soA ?_ | refine sgA ?_ | refine sxA ?_ | refine sbA ?_ | refine fun (Q : Post) hQ => ?_ | refine fun (nb : Nat) => (?_ : WL _ _ _ _ _ _ _ _ _) | (refine WL.guard rfl rfl rfl (fun h => ?_) (fun h => ?_) <;> (try dsimp only at h)))
  (refine seE ?_)
  refine ⟨[one b (cells [.slice (some ⟨g, 0, none⟩) n c, .map (some m)] 218), one g (cells L' 249), h4'], (by (exact keA)), rfl, ⟨_, c, m, _, h4', by rw [hlen.out], harr', ?_, hnd', by rw [hlen.out]; exact hbd⟩⟩
  rw [hat.out]
  exact mi4
end Go.Proofs.YtflgnpidelkkpaaGreat
