/- the heap and the reference's list by key, seen together: what is pushed, dropped, first; plain. -/
import Derived.Test.YtkgepjfofhjokaaRefP
import Derived.Test.YtkgepjfofhjokaaRefM
import Derived.Test.YtkgepjfofhjokaaHeapK
namespace Go.Proofs.Ytkgepjfofhjokaa
set_option linter.unusedVariables false
set_option linter.unusedSimpArgs false
/-- an item of the reference's list as an item of the heap -/
def toH (x : ItemV) : HI := ⟨x.key, x.id⟩
/-- sorted -/
def Srt (ys : List ItemV) : Prop := ys.Pairwise fun a b => aheadI b a = false
theorem HeapC.three {b : Nat} {l : List HI} {hs : List Hp} (h : HeapC b l hs) : ∃ p q r, hs = [p, q, r] := by
  obtain ⟨arr, ⟨A, c, m, ha, hm, e, _⟩, _⟩ := h
  exact ⟨_, _, _, e⟩
theorem off_map (id : Int) (ys : List ItemV) : off id (ys.map toH) = (offI id ys).map toH := by
  unfold off offI
  rw [List.filter_map]; rfl
theorem Srt.off {ys : List ItemV} (id : Int) (h : Srt ys) : Srt (offI id ys) := List.Pairwise.filter _ h
theorem Srt.push {pre post : List ItemV} {x : ItemV} (h : Srt (pre ++ post)) (h1 : ∀ b ∈ post, aheadI x b = true) (h2 : ∀ p y, pre = p ++ [y] → aheadI x y = false) : Srt (pre ++ x :: post) := by
  obtain ⟨ha, hb, hc⟩ := List.pairwise_append.1 h
  refine List.pairwise_append.2 ⟨ha, List.pairwise_cons.2 ⟨fun b hb => ahead_asym (h1 b hb), hb⟩, fun a ia b ib => ?_⟩
  rcases List.mem_cons.1 ib with rfl | ib
  · rcases List.eq_nil_or_concat pre with rfl | ⟨p, y, rfl⟩
    · cases ia
    · have hy := h2 p y (by simp)
      have ha' := (List.pairwise_append.1 (by simpa using ha : (p ++ [y]).Pairwise fun a b => aheadI b a = false)).2.2
      rcases List.mem_append.1 (by simpa using ia : a ∈ p ++ [y]) with i | i
      · exact nahead_trans hy (ha' a i y (by simp))
      · rw [List.mem_singleton.1 i]; exact hy
  · exact hc a ia b ib
theorem HeapC.pushed {b : Nat} {ys pre post : List ItemV} {id key : Int} {hs : List Hp} (h : HeapC b (⟨key, id⟩ :: off id (ys.map toH)) hs) (e : pre ++ post = offI id ys) : HeapC b ((pre ++ ⟨id, key⟩ :: post).map toH) hs := by
  refine h.perm ?_
  rw [off_map, ← e, List.map_append, List.map_append, List.map_cons]
  exact (List.perm_middle).symm
theorem HeapC.ndI {b : Nat} {ys : List ItemV} {hs : List Hp} (h : HeapC b (ys.map toH) hs) : (ys.map (·.id)).Nodup := by
  have := h.nd
  unfold Nd at this
  rw [List.map_map] at this
  exact this
theorem offI_none {ys : List ItemV} {id : Int} (h : ∀ x ∈ ys, x.id ≠ id) : offI id ys = ys := by
  unfold offI; rw [List.filter_eq_self]; intro x hx; simpa using h x hx
theorem offI_head {y : ItemV} {t : List ItemV} (h : ((y :: t).map (·.id)).Nodup) : offI y.id (y :: t) = t := by
  have h1 : ∀ x ∈ t, x.id ≠ y.id := fun x hx e => (List.nodup_cons.1 h).1 (List.mem_map.2 ⟨x, hx, e⟩)
  have : offI y.id (y :: t) = offI y.id t := by unfold offI; simp
  rw [this, offI_none h1]
theorem nd_uniq {α β : Type} {f : α → β} : ∀ {l : List α}, (l.map f).Nodup → ∀ {a b : α}, a ∈ l → b ∈ l → f a = f b → a = b
  | [], _, _, _, h, _, _ => nomatch h
  | y :: t, h, a, b, ha, hb, e => by
    obtain ⟨h1, h2⟩ := List.nodup_cons.1 h
    rcases List.mem_cons.1 ha with rfl | ia <;> rcases List.mem_cons.1 hb with rfl | ib
    · rfl
    · exact absurd (List.mem_map.2 ⟨b, ib, e.symm⟩) h1
    · exact absurd (List.mem_map.2 ⟨a, ia, e⟩) h1
    · exact nd_uniq h2 ia ib e
/-- the first of a sorted list is what the heap has on top -/
theorem first_min {ys : List ItemV} {x : HI} (hs : Srt ys) (hx : x ∈ ys.map toH) (hm : ∀ y ∈ ys.map toH, ahead y x = false) : ∃ y t, ys = y :: t ∧ x = toH y := by
  cases ys with
  | nil => cases hx
  | cons y t =>
    refine ⟨y, t, rfl, ?_⟩
    obtain ⟨z, hz, rfl⟩ := List.mem_map.1 hx
    rcases List.mem_cons.1 hz with rfl | hz
    · rfl
    · exact ahead_tot ((List.pairwise_cons.1 hs).1 z hz) (hm (toH y) (by simp))
theorem popS {b : Nat} {ys : List ItemV} {F : Hp} {hs : List Hp} (ho : HeapC b (ys.map toH) hs) (h : Srt ys) : Spec Try.prog 23 [.pointer (some ⟨b, 0, none⟩)] F hs fun v hs' => v = firstI ys ∧ HeapC b (ys.tail.map toH) hs' :=
  (pop_any b _ F hs ho).mono fun v hs' hp => by
    rcases hp with ⟨x, hx, hm, rfl, hc⟩ | ⟨he, rfl, hc⟩
    · obtain ⟨y, t, rfl, rfl⟩ := first_min h hx hm
      refine ⟨rfl, ?_⟩
      rw [off_map] at hc
      exact (offI_head ho.ndI ▸ hc :)
    · rw [List.map_eq_nil_iff] at he
      subst he
      exact ⟨rfl, hc⟩
theorem topS {b : Nat} {ys : List ItemV} {F : Hp} {hs : List Hp} (ho : HeapC b (ys.map toH) hs) (h : Srt ys) : Spec Try.prog 31 [.pointer (some ⟨b, 0, none⟩)] F hs fun v hs' => v = firstI ys ∧ hs' = hs :=
  (top_any b _ F hs ho).mono fun v hs' ⟨hp, e⟩ => ⟨by
    rcases hp with ⟨x, hx, hm, rfl⟩ | ⟨he, rfl⟩
    · obtain ⟨y, t, rfl, rfl⟩ := first_min h hx hm
      rfl
    · rw [List.map_eq_nil_iff] at he
      subst he
      rfl, e⟩
theorem keyS {b : Nat} {ys : List ItemV} {id : Int} {F : Hp} {hs : List Hp} (ho : HeapC b (ys.map toH) hs) : Spec Try.prog 26 [.pointer (some ⟨b, 0, none⟩), .int .i64 id] F hs fun v hs' => v = keyI ys id ∧ hs' = hs :=
  (key_any b _ id F hs ho).mono fun v hs' ⟨hp, e⟩ => ⟨by
    unfold keyI
    rcases hp with ⟨x, hx, hi, rfl⟩ | ⟨hn, rfl⟩
    · obtain ⟨z, hz, rfl⟩ := List.mem_map.1 hx
      cases hf : ys.find? (fun x => x.id == id) with
      | none => exact absurd hi (by simpa [toH] using List.find?_eq_none.1 hf z hz)
      | some w =>
        have hw : w.id = id := by simpa using List.find?_some hf
        have hwm := List.mem_of_find?_eq_some hf
        rw [nd_uniq ho.ndI hwm hz (hw.trans hi.symm)]; rfl
    · rw [List.find?_eq_none.2 fun z hz => by simpa [toH] using hn (toH z) (List.mem_map.2 ⟨z, hz, rfl⟩)], e⟩
theorem remS {b : Nat} {ys : List ItemV} {id : Int} {F : Hp} {hs : List Hp} (ho : HeapC b (ys.map toH) hs) : Spec Try.prog 27 [.pointer (some ⟨b, 0, none⟩), .int .i64 id] F hs fun v hs' => v = .bool (ys.any fun x => x.id == id) ∧ HeapC b ((offI id ys).map toH) hs' :=
  (rem_any b _ id F hs ho).mono fun v hs' ⟨hp, hc⟩ => ⟨by rw [hp, List.any_map]; rfl, off_map id ys ▸ hc⟩
theorem lenS {b : Nat} {ys : List ItemV} {F : Hp} {hs : List Hp} (ho : HeapC b (ys.map toH) hs) : Spec Try.prog 25 [.pointer (some ⟨b, 0, none⟩)] F hs fun v hs' => v = .int .i64 (ys.length : Nat) ∧ hs' = hs := len_eq ho (by simp)
theorem Takes.skip {α : Type} {t s w : List α} {h : α} (k : Takes t s w) : Takes (h :: t) s (h :: w) := by
  induction k with
  | nil => exact .nil
  | cons a b ih => exact .cons (.there a) ih
end Go.Proofs.Ytkgepjfofhjokaa
