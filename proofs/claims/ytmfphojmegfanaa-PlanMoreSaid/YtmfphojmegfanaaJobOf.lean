/- the reference's JobOf and moment. -/
import Derived.Test.YtmfphojmegfanaaOpens
import Derived.Test.YtmfphojmegfanaaTable
namespace Go.Proofs.Ytmfphojmegfanaa
open Go.RowKit
set_option linter.unusedVariables false
theorem moment_any (n : Int) (w : World) : Calls Try.prog 37 #[.int .i64 n] w fun e w' => e = .returned (.bool (winB n 0 2097152)) ∧ w = w' := by
  by_cases h1 : 0 ≤ n
  · by_cases h2 : n ≤ 2097152
    all_goals
      go_enter Try.func37, Try.ntmps37
      go_wp2
      go_ret
      exact ⟨ret_bool (by simp [winB, h1, h2]), rfl⟩
  · go_enter Try.func37, Try.ntmps37
    go_wp2
    go_ret
    exact ⟨ret_bool (by simp only [winB]; exact (decide_eq_false (fun h => by omega)).symm), rfl⟩
def jobZ : JobV := ⟨0, 0, 0, 0, 0, false⟩
def jobOf (js : List JobV) (n : Int) : Option JobV := js.find? fun j => j.task == n
theorem jobOf_none {js : List JobV} {n : Int} (h : ∀ j ∈ js, ¬ j.task = n) : jobOf js n = none := by
  unfold jobOf
  rw [List.find?_eq_none]
  intro j hj
  simpa using h j hj
theorem jobOf_at {js : List JobV} {n : Int} {k : Nat} (hk : k < js.length) (h : ∀ j ∈ js.take k, ¬ j.task = n) (he : js[k].task = n) : jobOf js n = some js[k] := by
  unfold jobOf
  have e : js.find? (fun j => j.task == n) = (js.take k ++ js.drop k).find? (fun j => j.task == n) := by rw [List.take_append_drop]
  rw [e, List.find?_append, List.find?_eq_none.2 (fun j hj => by simpa using h j hj), Option.none_or, List.drop_eq_getElem_cons hk, List.find?_cons]
  simp [he]
theorem jobOf_mem {js : List JobV} {n : Int} {j : JobV} (h : jobOf js n = some j) : j ∈ js ∧ j.task = n := by
  unfold jobOf at h
  exact ⟨List.mem_of_find?_eq_some h, by simpa using List.find?_some h⟩
set_option maxHeartbeats 2000000 in
theorem jobof_any (A : Option Addr) (c : Nat) (js : List JobV) (n : Int) (w : World) (hr : Row w A (js.flatMap JobV.enc)) (hl : js.length ≤ 4611686018427387904) :
    Calls Try.prog 20 #[.slice A js.length c, .int .i64 n] w fun e w' => e = .returned (.tuple #[((jobOf js n).getD jobZ).val, .bool (jobOf js n).isSome]) ∧ Ext w w' := by
  go_enter Try.func20, Try.ntmps20
  go_wp2
  go_loop [5, 6] (fun r i => ∃ k : Nat, k ≤ js.length ∧ i = .int .i64 k ∧ r = .bool false ∧ Hid (∀ j ∈ js.take k, ¬ j.task = n)) (fun _ i => js.length - (intOf i).toNat)
  case atStart => exact ⟨0, by omega, rfl, rfl, (by simp : ∀ j ∈ js.take 0, ¬ j.task = n)⟩
  case round =>
    obtain ⟨k, hk, rfl, rfl, HN⟩ := hrel
    by_cases hlt : k < js.length
    · obtain ⟨b, o, rfl, ub, u0, u1, u2, u3, u4, u5⟩ := JobV.row hr k hlt
      by_cases he : js[k].task = n
      · have hb1 : (js[k].task == n) = true := by simp [he]
        have hj := jobOf_at hlt HN.out he
        have HJ := Lib.hid hj; clear hj he
        go_wp2
        exact bodyPost_ret (v := .tuple #[js[k].val, .bool true]) (by simp [results, Try.results20, go_sem, JobV.val]) rfl ⟨by rw [HJ.out]; rfl, (by repeat (first | exact Ext.refl _ | assumption | refine Ext.alloc ?_ _ | refine Ext.drew ?_ | refine Ext.drewN ?_ _ | refine Ext.trans ?_ (by assumption)))⟩
      · have hb1 : (js[k].task == n) = false := by simp [he]
        have HE := Lib.hid he; clear he
        go_wp2
        go_round
        case rel => exact ⟨k + 1, by omega, by go_num, rfl, (by intro j hj; rw [List.take_succ_eq_append_getElem hlt] at hj; rcases List.mem_append.1 hj with h | h; exact HN.out j h; (rw [List.mem_singleton.1 h]; exact HE.out) : ∀ j ∈ js.take (k + 1), ¬ j.task = n)⟩
        case measure => simp [intOf]; omega
    · have hks : k = js.length := by omega
      subst hks
      have hn : jobOf js n = none := jobOf_none (by have := HN.out; rwa [List.take_length] at this)
      have HN2 := Lib.hid hn; clear hn HN
      go_wp2
      exact bodyPost_ret (v := .tuple #[jobZ.val, .bool false]) (by simp [results, Try.results20, go_sem, JobV.val, jobZ]) rfl ⟨by rw [HN2.out]; rfl, (by repeat (first | exact Ext.refl _ | assumption | refine Ext.alloc ?_ _ | refine Ext.drew ?_ | refine Ext.drewN ?_ _ | refine Ext.trans ?_ (by assumption)))⟩
end Go.Proofs.Ytmfphojmegfanaa
