/- tasks: what one uses and needs; ceilings. The program's functions and the reference's. -/
import Derived.Test.YtmfphojmegfanabOpens
import Derived.Deep.DeepCutAuto
namespace Go.Proofs.Ytmfphojmegfanab
open Go.RowKit
set_option linter.unusedVariables false

theorem new_block (w : World) (o : Obj) (n : Nat) (h : w.heap.size = n) : (w.alloc o).heap[n]? = some o := by subst h; exact heap_alloc_new w o
theorem old_block {w : World} {o x : Obj} {k : Nat} (h : w.heap[k]? = some x) : (w.alloc o).heap[k]? = some x := (heap_alloc_old w o (Array.getElem?_eq_some_iff.1 h).1).trans h
theorem Ext.lt {w w1 : World} {o : Obj} (h : Ext (w.alloc o) w1) : w.heap.size < w1.heap.size := by
  have := h.size
  simp only [World.size_alloc] at this
  omega
/-- the first place of v from i on, or -1 -/
def idx (v : Int) : List Int → Int → Int
  | [], _ => -1
  | x :: xs, i => if v = x then i else idx v xs (i + 1)
def memB (v : Int) (xs : List Int) : Bool := decide (v ∈ xs)
theorem memB_iff {v : Int} {xs : List Int} : memB v xs = true ↔ v ∈ xs := by simp [memB]
theorem idx_mem (v : Int) (xs : List Int) : ∀ i : Int, 0 ≤ i → ((v ∈ xs → 0 ≤ idx v xs i) ∧ (v ∉ xs → idx v xs i = -1)) := by
  induction xs with
  | nil => intro i h; exact ⟨fun h => by simp at h, fun _ => rfl⟩
  | cons x xs ih =>
    intro i h
    unfold idx
    by_cases e : v = x
    · rw [if_pos e]; exact ⟨fun _ => h, fun h2 => absurd (by rw [e]; exact List.mem_cons_self) h2⟩
    · rw [if_neg e]
      obtain ⟨a, b⟩ := ih (i + 1) (by omega)
      exact ⟨fun hm => a ((List.mem_cons.1 hm).resolve_left e), fun hm => b fun h3 => hm (List.mem_cons_of_mem _ h3)⟩
set_option maxHeartbeats 400000 in
theorem index_any (A : Option Addr) (c : Nat) (xs : List Int) (v : Int) (w : World) (hl : xs.length ≤ 4611686018427387904) (hr : Row w A (xs.flatMap encI)) :
    Calls Try.prog 23 #[.slice A xs.length c, .int .i64 v] w fun e w' => e = .returned (.int .i64 (idx v xs 0)) ∧ w = w' := by
  go_enter Try.func23, Try.ntmps23
  go_wp2
  go_loop [5, 8] (fun _ i => ∃ k : Nat, k ≤ xs.length ∧ i = .int .i64 k ∧ idx v xs 0 = idx v (xs.drop k) k) (fun _ i => xs.length - (intOf i).toNat)
  case atStart => exact ⟨0, by omega, rfl, rfl⟩
  case round =>
    obtain ⟨k, hk, rfl, he⟩ := hrel
    have HE := Lib.hid he; clear he
    by_cases hlt : k < xs.length
    · obtain ⟨b, o, rfl, hbl, hc⟩ := ints_at hr k hlt
      clear hr
      by_cases hv : v = xs[k]
      · have hb : (v == xs[k]) = true := by simp [hv]
        clear hv
        go_wp2
        go_ret
        exact ⟨ret_int (by rw [HE.out, List.drop_eq_getElem_cons hlt, idx, if_pos (by simpa using hb)]), rfl⟩
      · have hb : (v == xs[k]) = false := by simp [hv]
        clear hv
        go_wp2
        go_round
        case rel => exact ⟨k + 1, by omega, by go_num, by rw [HE.out, List.drop_eq_getElem_cons hlt, idx, if_neg (by simpa using hb)]; rfl⟩
        case measure => simp [intOf]; omega
    · go_wp2
      go_ret
      exact ⟨ret_int (by rw [HE.out, List.drop_of_length_le (by omega), idx]), rfl⟩
theorem contains_any (A : Option Addr) (c : Nat) (xs : List Int) (v : Int) (w : World) (hl : xs.length ≤ 4611686018427387904) (hr : Row w A (xs.flatMap encI)) :
    Calls Try.prog 17 #[.slice A xs.length c, .int .i64 v] w fun e w' => e = .returned (.bool (memB v xs)) ∧ w = w' := by
  obtain ⟨h1, h2⟩ := idx_mem v xs 0 (by omega)
  by_cases hm : v ∈ xs
  · have h := h1 hm
    have HM := Lib.hid hm; clear hm h1 h2
    have hd : decide (0 ≤ idx v xs 0) = true := decide_eq_true h
    go_enter Try.func17, Try.ntmps17
    go_wp2_with (go_at_call 23; refine (index_any _ _ _ _ _ hl hr).mono ?_; rintro e w' ⟨rfl, rfl⟩)
    go_ret
    exact ⟨ret_bool (memB_iff.2 HM.out).symm, rfl⟩
  · have h := h2 hm
    have HM := Lib.hid hm; clear hm h1 h2
    have hd : decide (0 ≤ idx v xs 0) = false := decide_eq_false (by omega)
    clear h
    go_enter Try.func17, Try.ntmps17
    go_wp2_with (go_at_call 23; refine (index_any _ _ _ _ _ hl hr).mono ?_; rintro e w' ⟨rfl, rfl⟩)
    go_ret
    exact ⟨ret_bool (by simp only [memB]; exact (decide_eq_false HM.out).symm), rfl⟩
theorem needs_any (t : TaskV) (d : Int) (w : World) (ht : t.Ok w) :
    Calls Try.prog 10 #[t.val, .int .i64 d] w fun e w' => e = .returned (.bool (memB d t.devs.xs)) ∧ Ext w w' := by
  have hl : t.devs.xs.length ≤ 4611686018427387904 := by have := ht.devs.fit; omega
  have hr := ht.devs.row
  clear ht
  unfold TaskV.val
  go_enter Try.func10, Try.ntmps10
  go_wp2_with fail
  refine (contains_any _ _ _ _ _ hl (hr.ext (by repeat (first | exact Ext.refl _ | assumption | refine Ext.alloc ?_ _ | refine Ext.drew ?_ | refine Ext.drewN ?_ _ | refine Ext.trans ?_ (by assumption))))).mono ?_
  rintro e w1 ⟨rfl, rfl⟩
  go_wp2
  go_ret
  exact ⟨rfl, (by repeat (first | exact Ext.refl _ | assumption | refine Ext.alloc ?_ _ | refine Ext.drew ?_ | refine Ext.drewN ?_ _ | refine Ext.trans ?_ (by assumption)))⟩
set_option maxHeartbeats 1000000 in
theorem rneeds_any (t : TaskV) (d : Int) (w : World) (ht : t.Ok w) :
    Calls Try.prog 11 #[t.val, .int .i64 d] w fun e w' => e = .returned (.bool (memB d t.devs.xs)) ∧ Ext w w' := by
  have hl : t.devs.xs.length ≤ 4611686018427387904 := by have := ht.devs.fit; omega
  have hr := ht.devs.row
  obtain ⟨period, cycles, sec, ⟨DA, Dc, ds⟩⟩ := t
  clear ht
  unfold TaskV.val
  dsimp only at hl hr ⊢
  go_enter Try.func11, Try.ntmps11
  go_wp2
  go_loop [5] (fun i => ∃ k : Nat, k ≤ ds.length ∧ i = .int .i64 k ∧ Hid (d ∉ ds.take k)) (fun i => ds.length - (intOf i).toNat)
  case atStart => exact ⟨0, by omega, rfl, (by simp : d ∉ ds.take 0)⟩
  case round =>
    obtain ⟨k, hk, rfl, HN⟩ := hrel
    by_cases hlt : k < ds.length
    · obtain ⟨b, o, rfl, hbl, hc⟩ := ints_at hr k hlt
      by_cases hv : ds[k] = d
      · have hb : (ds[k] == d) = true := by simp [hv]
        have hmem : d ∈ ds := by rw [← hv]; exact List.getElem_mem hlt
        have HMEM := Lib.hid hmem; clear hmem hv
        go_wp2
        go_ret
        exact ⟨ret_bool (memB_iff.2 HMEM.out).symm, (by repeat (first | exact Ext.refl _ | assumption | refine Ext.alloc ?_ _ | refine Ext.drew ?_ | refine Ext.drewN ?_ _ | refine Ext.trans ?_ (by assumption)))⟩
      · have hb : (ds[k] == d) = false := by simp [hv]
        have HV := Lib.hid hv; clear hv
        go_wp2
        go_round
        case rel => exact ⟨k + 1, by omega, by go_num, (by rw [List.take_succ_eq_append_getElem hlt]; intro h; rcases List.mem_append.1 h with h | h; exact HN.out h; exact HV.out (List.mem_singleton.1 h).symm : d ∉ ds.take (k + 1))⟩
        case measure => simp [intOf]; omega
    · have hks : k = ds.length := by omega
      subst hks
      have hn : d ∉ ds := by have := HN.out; rwa [List.take_length] at this
      have HN2 := Lib.hid hn; clear hn HN
      go_wp2
      go_ret
      exact ⟨ret_bool (by simp only [memB]; exact (decide_eq_false HN2.out).symm), (by repeat (first | exact Ext.refl _ | assumption | refine Ext.alloc ?_ _ | refine Ext.drew ?_ | refine Ext.drewN ?_ _ | refine Ext.trans ?_ (by assumption)))⟩
end Go.Proofs.Ytmfphojmegfanab
