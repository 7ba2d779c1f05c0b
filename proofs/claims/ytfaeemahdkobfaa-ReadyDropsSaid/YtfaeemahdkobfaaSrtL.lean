/- slices.SortFunc at jobs, as a contract of the engine. -/
import Derived.Test.YtfaeemahdkobfaaCmp
namespace Go.Proofs.Ytfaeemahdkobfaa
open Go.Shelf Go.Sort
set_option linter.unusedVariables false
set_option linter.unusedSimpArgs false
/-- no later job comes ahead of an earlier one -/
def SrtJ (l : List JobV) : Prop := l.Pairwise fun x y => Go.Proofs.Ytfaeemahdkobfaa.ahead (toHJ y) (toHJ x) = false
theorem flatK_list (d : List JobV) : flatK JobV.enc 6 d.toArray = (d.flatMap JobV.enc).toArray := by
  have hl := flat_len JobV.enc 6 JobV.enc_len d
  refine Array.ext_getElem? fun t => ?_
  by_cases ht : t < d.length * 6
  · have h1 : t < (flatK JobV.enc 6 d.toArray).size := by rw [size_flatK]; simpa using ht
    have hi : t / 6 < d.length := by omega
    have hx : d[t / 6]? = some d[t / 6] := List.getElem?_eq_getElem hi
    have hj : t % 6 < (d[t / 6].enc).length := by rw [JobV.enc_len]; omega
    have hv := flat_get JobV.enc 6 JobV.enc_len d (t / 6) (t % 6) _ _ hx (List.getElem?_eq_getElem hj)
    have e : t / 6 * 6 + t % 6 = t := by omega
    rw [e] at hv
    have hg := get_flatK JobV.enc 6 d.toArray t (by simpa using ht)
    rw [getElem!_pos _ t h1] at hg
    have e2 : d.toArray[t / 6]! = d[t / 6] := by
      rw [getElem!_pos _ (t / 6) (by simpa using hi)]; simp
    rw [e2, getElem!_pos _ (t % 6) hj] at hg
    rw [Array.getElem?_eq_getElem h1, hg]
    simpa using hv.symm
  · rw [Array.getElem?_eq_none (by rw [size_flatK]; simpa using ht), Array.getElem?_eq_none (by simp [hl]; omega)]
theorem putCells_list (x a sp : List Value) (h : a.length = x.length) : putCells id 0 a.toArray (x ++ sp).toArray = (a ++ sp).toArray := by
  refine Array.ext (by simp [putCells, h]) fun i h1 h2 => ?_
  simp only [putCells, Array.getElem_mapIdx, Nat.zero_le, true_and, Nat.zero_add, List.size_toArray, Nat.sub_zero, id_eq, List.getElem_toArray]
  split
  · next hi =>
    rw [List.getElem_append_left hi, getElem!_pos _ i (by simpa using hi)]
    simp
  · next hi =>
    rw [List.getElem_append_right (by omega), List.getElem_append_right (by omega)]
    congr 1; omega
theorem sort_any (l : List JobV) (A : Option Addr) (c : Nat) (h : Hp) (ha : Arr 27 6 l.length (l.flatMap JobV.enc) A c h) (hA : A ≠ none) (hlen : l.length < 4611686018427387904) (F : Hp) :
    Spec Try.prog 24 [.slice A l.length c, .func (.func 25) #[] #[]] F [h] fun v hs => v = .tuple #[] ∧ ∃ l' h', l'.Perm l ∧ SrtJ l' ∧ Arr 27 6 l'.length (l'.flatMap JobV.enc) A c h' ∧ hs = [h'] := by
  intro B w ho
  obtain ⟨ha1, ⟨e1, _⟩ | ⟨g, sp, rfl, rfl, ha2, ha3, ha4⟩⟩ := ha
  · exact absurd e1 hA
  have hg : w.heap[g]? = some (cells (l.flatMap JobV.enc ++ sp) 27) := ho.all _ (.head _) _ _ (one_get _ _)
  have hfl := flat_len JobV.enc 6 JobV.enc_len l
  have hH : HoldsK JobV.enc 6 w g 0 l.toArray := by
    unfold HoldsK
    rw [flatK_list]
    intro j hj
    have hj : j < (l.flatMap JobV.enc).length := by simpa using hj
    constructor
    · simp only [World.cell?, hg, Nat.zero_add, id_eq]
      rw [getElem!_pos _ j (by simpa using hj)]
      simp [List.getElem?_append_left hj, List.getElem?_eq_getElem hj]
    · simp only [World.frozen?, hg, Nat.zero_add]
      simp
  have hb : g < w.heap.size := (Array.getElem?_eq_some_iff.1 hg).1
  have eg : ∀ args w, (callFunc 25 args).run Try.prog w = .ok (.enter 25 args) w := enters_of Try.func25 (by kernel_rfl) rfl
  have hcon := AnyQ.slices_SortFunc Try.sortJ 6 Try.isAgg27 Try.sizeOf27 JobV.enc JobV.enc_len (fun x v hv => by simp [JobV.enc] at hv; rcases hv with rfl | rfl | rfl | rfl | rfl | rfl <;> rfl) cfJ swoJ 25 #[] g 0 c l.toArray w eg (cmpJ g 0 _ w) hH hb (by simpa using hlen)
  have hs : l.toArray.size = l.length := by simp
  rw [hs] at hcon
  refine Calls.mono hcon ?_
  rintro e w' ⟨rfl, d', n, os, hp, hso, rfl⟩
  obtain ⟨hp1, _, hp3⟩ := hp
  have hd : d'.toList.length = l.length := by simpa using hp1
  have hperm : d'.toList.Perm l := by
    have e1 : d'.extract 0 l.length = d' := by rw [← hd]; simp
    have e2 : l.toArray.extract 0 l.length = l.toArray := by simp
    rw [e1, e2] at hp3
    simpa using hp3
  have hfl' := flat_len JobV.enc 6 JobV.enc_len d'.toList
  have hsrt : SrtJ d'.toList := by
    unfold SrtJ
    rw [List.pairwise_iff_getElem]
    intro i j hi hj hij
    have := hso i j (Nat.zero_le _) hij (by omega)
    rw [ltJ] at this
    rw [getElem!_pos _ j (by simpa using hj), getElem!_pos _ i (by simpa using hi)] at this
    simpa using this
  have hw : putRowK JobV.enc 6 (Sort.ahead w n) g 0 d' = mapBlock (Sort.ahead w n) g (putCells id 0 (d'.toList.flatMap JobV.enc).toArray) := by
    unfold putRowK putRow
    rw [← flatK_list]
  have hw' : (sortWorldK JobV.enc 6 w g 0 n d' os).heap = w.heap.modify g (onCells (putCells id 0 (d'.toList.flatMap JobV.enc).toArray)) ++ os := by
    unfold sortWorldK; rw [hw]; rfl
  refine ⟨_, _, rfl, ⟨rfl, d'.toList, one g (cells (d'.toList.flatMap JobV.enc ++ sp) 27), hperm, hsrt, Arr.mk (by rw [hfl']) (by rw [List.length_append, hfl', hd, ← hfl, ← List.length_append]; exact ha2) (by omega) ha4, rfl⟩, ?_⟩
  refine ho.grown (fun k hk hn => ?_) (fun k o hk => ?_) (by unfold sortWorldK; rw [hw]; rfl) (by unfold sortWorldK; rw [hw]; rfl) (by unfold sortWorldK; rw [hw]; rfl) (by unfold sortWorldK; rw [hw]; exact Nat.le_add_right _ _)
  · have hkg : g ≠ k := by
      intro e; subst e; rw [one_get] at hn; cases hn
    rw [hw', Array.getElem?_append_left (by simpa using hk), Array.getElem?_modify, if_neg hkg]
  · obtain ⟨rfl, rfl⟩ := one_inv hk
    refine ⟨?_, .inl (by rw [one_get]; simp)⟩
    rw [hw', Array.getElem?_append_left (by simpa using hb), Array.getElem?_modify, if_pos rfl, hg]
    simp only [Option.map_some, onCells]
    rw [putCells_list _ _ _ (by rw [hfl', hfl, hd])]
end Go.Proofs.Ytfaeemahdkobfaa
