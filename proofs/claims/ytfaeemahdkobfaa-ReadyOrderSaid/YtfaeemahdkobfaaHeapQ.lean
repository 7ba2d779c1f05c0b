/- A heap in a list: what pushing and removing do to the list, plain. -/
import Derived.Test.YtfaeemahdkobfaaHeapP
namespace Go.Proofs.Ytfaeemahdkobfaa
set_option linter.unusedVariables false
theorem atD_look {arr : List HI} (h : Nd arr) {i : Nat} (hi : i < arr.length) : atD arr (gt arr i).id = some (.int .i64 (i : Nat)) := by
  unfold atD
  rw [(idx_iff h).2 ⟨_, gt_get hi, rfl⟩]; rfl
theorem gt_eq {arr : List HI} {i : Nat} (hi : i < arr.length) : gt arr i = arr[i] := by
  have := gt_get hi
  rw [List.getElem?_eq_getElem hi] at this
  exact (Option.some.inj this).symm
def off (id : Int) (l : List HI) : List HI := l.filter fun x => x.id != id
theorem off_perm {a b : List HI} (id : Int) (p : a.Perm b) : (off id a).Perm (off id b) := p.filter _
theorem off_nd {l : List HI} (id : Int) (h : Nd l) : Nd (off id l) := List.Nodup.sublist ((List.filter_sublist).map _) h
theorem off_none {l : List HI} {id : Int} (h : ∀ x ∈ l, x.id ≠ id) : off id l = l := by
  unfold off; rw [List.filter_eq_self]; intro x hx; simpa using h x hx
theorem off_mem {l : List HI} {id : Int} {x : HI} (h : x ∈ off id l) : x.id ≠ id := by
  unfold off at h; simpa using (List.mem_filter.1 h).2
theorem off_len (id : Int) (l : List HI) : (off id l).length ≤ l.length := List.length_filter_le _ _
theorem split_at {arr : List HI} {n : Nat} (hn : n < arr.length) : arr = arr.take n ++ gt arr n :: arr.drop (n + 1) := by
  rw [gt_eq hn, List.getElem_cons_drop, List.take_append_drop]
theorem off_split {arr : List HI} (h : Nd arr) {n : Nat} (hn : n < arr.length) : off (gt arr n).id arr = arr.take n ++ arr.drop (n + 1) := by
  have e := split_at hn
  have hh : Nd (arr.take n ++ gt arr n :: arr.drop (n + 1)) := by rw [← e]; exact h
  unfold Nd at hh
  rw [List.map_append, List.map_cons, List.nodup_append] at hh
  obtain ⟨h1, h2, h3⟩ := hh
  rw [List.nodup_cons] at h2
  generalize gt arr n = g at *
  conv => lhs; rw [e]
  unfold off
  rw [List.filter_append, List.filter_cons_of_neg (by simp)]
  congr 1
  · rw [List.filter_eq_self]
    intro x hx
    have := h3 x.id (List.mem_map_of_mem hx) g.id (by simp)
    simpa using this
  · rw [List.filter_eq_self]
    intro x hx
    have : x.id ≠ g.id := fun e => h2.1 (e ▸ List.mem_map_of_mem hx)
    simpa using this
theorem cons_nd {x : HI} {l : List HI} (h : Nd l) (hx : ∀ y ∈ l, y.id ≠ x.id) : Nd (x :: l) := by
  unfold Nd at *
  rw [List.map_cons, List.nodup_cons]
  refine ⟨fun hm => ?_, h⟩
  obtain ⟨y, hy, e⟩ := List.mem_map.1 hm
  exact hx y hy e
theorem set_perm {arr : List HI} (h : Nd arr) {n : Nat} (hn : n < arr.length) (x : HI) : (arr.set n x).Perm (x :: off (gt arr n).id arr) := by
  rw [off_split h hn, List.set_eq_take_append_cons_drop, if_pos hn]
  exact List.perm_middle
theorem set_gt {arr : List HI} {n i : Nat} (x : HI) (hi : i < arr.length) : gt (arr.set n x) i = if i = n then x else gt arr i := by
  rw [gt_eq (by simpa using hi), gt_eq hi, List.getElem_set]
  by_cases e : n = i
  · rw [if_pos e, if_pos e.symm]
  · rw [if_neg e, if_neg (Ne.symm e)]
theorem set_nd {arr : List HI} (h : Nd arr) {n : Nat} (hn : n < arr.length) {x : HI} (hx : x.id = (gt arr n).id) : Nd (arr.set n x) :=
  Nd.perm (cons_nd (off_nd _ h) fun y hy => hx ▸ off_mem hy) (set_perm h hn x).symm
theorem set_atD {arr : List HI} (h : Nd arr) {n : Nat} (hn : n < arr.length) {x : HI} (hx : x.id = (gt arr n).id) : atD (arr.set n x) = upd (atD arr) x.id (some (.int .i64 (n : Nat))) := by
  have : (arr.set n x).map (·.id) = arr.map (·.id) := by
    rw [List.map_set, hx, gt_eq hn]
    apply List.ext_getElem (by simp)
    intro i h1 h2
    rw [List.getElem_set]
    by_cases e : n = i
    · subst e; simp
    · rw [if_neg e]
  have e2 : atD (arr.set n x) = atD arr := by
    funext k
    unfold atD
    have e3 : ∀ l : List HI, l.findIdx? (fun x => x.id == k) = (l.map (·.id)).findIdx? (· == k) := fun l => by
      rw [List.findIdx?_map]; rfl
    rw [e3, e3, this]
  rw [e2]
  funext k
  unfold upd
  by_cases e : k = x.id
  · subst e; simp [hx, atD_look h hn]
  · simp [e]
theorem app_gt {arr : List HI} {i : Nat} (x : HI) (hi : i < arr.length + 1) : gt (arr ++ [x]) i = if i = arr.length then x else gt arr i := by
  rw [gt_eq (by simpa using hi)]
  by_cases e : i = arr.length
  · subst e; simp
  · rw [if_neg e, gt_eq (by omega), List.getElem_append_left (by omega)]
theorem app_nd {arr : List HI} (h : Nd arr) {x : HI} (hx : ∀ y ∈ arr, y.id ≠ x.id) : Nd (arr ++ [x]) :=
  Nd.perm (cons_nd h hx) (List.perm_append_comm (l₁ := [x]) (l₂ := arr))
theorem app_atD {arr : List HI} (h : Nd arr) {x : HI} (hx : ∀ y ∈ arr, y.id ≠ x.id) : atD (arr ++ [x]) = upd (atD arr) x.id (some (.int .i64 (arr.length : Nat))) := by
  funext k
  unfold upd atD
  rw [List.findIdx?_append]
  by_cases e : k = x.id
  · subst e
    rw [if_pos rfl, idx_none_iff.2 hx]
    simp
  · rw [if_neg e]
    have : ([x] : List HI).findIdx? (fun y => y.id == k) = none := by simp [Ne.symm e]
    rw [this]; simp
theorem atD_none {arr : List HI} {k : Int} (h : atD arr k = none) : ∀ y ∈ arr, y.id ≠ k := by
  unfold atD at h
  exact idx_none_iff.1 (by simpa using h)
theorem atD_some {arr : List HI} (h : Nd arr) {k : Int} {v : Value} (e : atD arr k = some v) : ∃ n, v = .int .i64 (n : Nat) ∧ n < arr.length ∧ (gt arr n).id = k := by
  unfold atD at e
  cases hf : arr.findIdx? (fun x => x.id == k) with
  | none => rw [hf] at e; cases e
  | some n =>
    rw [hf] at e
    obtain ⟨x, hx, hk⟩ := (idx_iff h).1 hf
    have hn := (List.getElem?_eq_some_iff.1 hx).1
    refine ⟨n, (Option.some.inj e).symm, hn, ?_⟩
    rw [gt_get hn] at hx
    rw [← hk, Option.some.inj hx]
theorem take_gt {arr : List HI} {i n : Nat} (hi : i < n) (hn : n ≤ arr.length) : gt (arr.take n) i = gt arr i := by
  rw [gt_eq (by simp; omega), gt_eq (by omega), List.getElem_take]
theorem take_off {arr : List HI} (h : Nd arr) {n : Nat} (hn : n + 1 = arr.length) : arr.take n = off (gt arr n).id arr := by
  rw [off_split h (by omega), List.drop_of_length_le (by omega), List.append_nil]
theorem take_nd {arr : List HI} (h : Nd arr) (n : Nat) : Nd (arr.take n) := List.Nodup.sublist ((List.take_sublist _ _).map _) h
theorem take_atD {arr : List HI} (h : Nd arr) {n : Nat} (hn : n + 1 = arr.length) : atD (arr.take n) = upd (atD arr) (gt arr n).id none := by
  have e := split_at (arr := arr) (n := n) (by omega)
  rw [List.drop_of_length_le (by omega)] at e
  have hx : ∀ y ∈ arr.take n, y.id ≠ (gt arr n).id := fun y hy => by rw [take_off h hn] at hy; exact off_mem hy
  have e2 := app_atD (take_nd h n) hx
  rw [← e] at e2
  rw [e2]
  funext k
  unfold upd
  by_cases ek : k = (gt arr n).id
  · subst ek
    rw [if_pos rfl]
    unfold atD; rw [idx_none_iff.2 hx]; rfl
  · rw [if_neg ek, if_neg ek]
end Go.Proofs.Ytfaeemahdkobfaa
