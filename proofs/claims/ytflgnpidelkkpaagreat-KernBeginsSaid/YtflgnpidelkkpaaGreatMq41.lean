/- part 41 of the proof: contracts of the functions that the law reaches, and plain laws. -/
import Derived.Test.YtflgnpidelkkpaaGreatMq38
namespace Go.Proofs.YtflgnpidelkkpaaGreat
set_option maxRecDepth 8000
set_option maxHeartbeats 1000000
set_option linter.unusedVariables false
set_option linter.unusedSimpArgs false
theorem admitK_ref {s : Kn} {t : TT} : (admitK s t).2.2 ≠ 0 → (admitK s t).1 = s ∧ (admitK s t).2.1 = 0 := by
  unfold admitK
  repeat' split
  all_goals first | exact fun _ => ⟨rfl, rfl⟩ | exact fun h => absurd rfl h
theorem removeK_ref {s : Kn} {n : Int} : (removeK s n).2 ≠ 0 → (removeK s n).1 = s := by
  unfold removeK
  repeat' split
  all_goals first | exact fun _ => rfl | exact fun h => absurd rfl h
theorem arriveK_ref {s : Kn} {n a b : Int} : (arriveK s n a b).2 ≠ 0 → (arriveK s n a b).1 = s := by
  unfold arriveK
  repeat' split
  all_goals first | exact fun _ => rfl | exact fun h => absurd rfl h
theorem tickK_ref {s : Kn} {n : Int} : (tickK s n).2 ≠ 0 → (tickK s n).1 = s := by
  unfold tickK
  repeat' split
  all_goals first | exact fun _ => rfl | exact fun h => absurd rfl h
theorem lockK_ref {s : Kn} {m : Int} {g : Bool} : (lockK s m g).2 ≠ 0 → (lockK s m g).1 = s := by
  unfold lockK
  repeat' split
  all_goals first | exact fun _ => rfl | exact fun h => absurd rfl h
theorem policyK_ref {s : Kn} {a b : Int} : (policyK s a b).2 ≠ 0 → (policyK s a b).1 = s := by
  unfold policyK
  repeat' split
  all_goals first | exact fun _ => rfl | exact fun h => absurd rfl h
theorem timerK_ref {s : Kn} {x : StepV} : (timerK s x).2 ≠ 0 → (timerK s x).1 = s := by
  unfold timerK
  split
  · intro h
    dsimp only at h ⊢
    have h1 : (s.timers.any fun y => y.id == x.A) = false := by
      cases e : s.timers.any fun y => y.id == x.A with
      | false => rfl
      | true => rw [if_pos e] at h; exact absurd rfl h
    have h2 : offT x.A s.timers = s.timers := by
      unfold offT
      rw [List.filter_eq_self]
      intro y hy
      have := List.any_eq_false.1 h1 y hy
      simpa using this
    rw [h2]
  · split
    all_goals first | exact fun _ => rfl | exact fun h => absurd rfl h
theorem oneK_ref {s : Kn} {x : StepV} : (oneK s x).2.2 ≠ 0 → (oneK s x).1 = s ∧ (oneK s x).2.1 = 0 := by
  unfold oneK
  repeat' split
  all_goals first | exact admitK_ref | exact fun h => ⟨removeK_ref h, rfl⟩ | exact fun h => ⟨arriveK_ref h, rfl⟩ | exact fun h => ⟨tickK_ref h, rfl⟩ | exact fun h => ⟨lockK_ref h, rfl⟩ | exact fun h => ⟨policyK_ref h, rfl⟩ | exact fun h => ⟨timerK_ref h, rfl⟩ | exact fun _ => ⟨rfl, rfl⟩
theorem doK_ref {s : Kn} {x : StepV} : (doK s x).2.2 ≠ 0 → (doK s x).1 = s ∧ (doK s x).2.1 = 0 := by
  unfold doK
  split
  · exact fun _ => ⟨rfl, rfl⟩
  · split
    · next h => exact fun k => absurd h k
    · exact oneK_ref
structure HS where
  p : PP
  now : Int
  trace : List IntervalV
  meter : MeterV
  events : List EventV
def histK (s : Kn) : HS := ⟨s.p, s.now, s.trace, s.meter, s.events⟩
def HS.did (h : HS) (kind len arg task cy : Int) : HS := { h with trace := addV h.trace ⟨kind, h.now, len, arg, task, cy⟩, meter := meterAdd h.p h.meter ⟨kind, h.now, len, arg, task, cy⟩, now := w64 (h.now + len) }
def HS.say (h : HS) (e : EventV) : HS := { h with events := h.events ++ [e] }
theorem histK_did (s : Kn) (kind len arg task cy : Int) : histK (didK s kind len arg task cy) = (histK s).did kind len arg task cy := rfl
def DidOk (p : PP) (kind len arg cy : Int) : Prop :=
  (kind = 1 ∧ cy = 1 ∧ (0 ≤ arg ∧ arg < (p.levels.length : Nat)) ∧ len = (levOf p arg).P) ∨ (kind = 2 ∧ cy = 0 ∧ len = 1) ∨ (kind = 3 ∧ cy = 0 ∧ (0 ≤ arg ∧ arg < (p.levels.length : Nat)) ∧ len = p.switch) ∨
  (kind = 4 ∧ cy = 0 ∧ (0 ≤ arg ∧ arg < (p.sleeps.length : Nat)) ∧ len = (slpOf p arg).enter) ∨ (kind = 5 ∧ cy = 0 ∧ (0 ≤ arg ∧ arg < (p.sleeps.length : Nat)) ∧ len = 1) ∨ (kind = 6 ∧ cy = 0 ∧ (0 ≤ arg ∧ arg < (p.sleeps.length : Nat)) ∧ len = (slpOf p arg).exit)
inductive Hist : HS → HS → Prop
  | refl (h : HS) : Hist h h
  | did {h h' : HS} (kind len arg task cy : Int) : Hist h h' → DidOk h'.p kind len arg cy → (0 ≤ h'.now ∧ h'.now ≤ 16640 ∧ h'.trace.length ≤ 200000000) → Hist h (h'.did kind len arg task cy)
  | say {h h' : HS} (e : EventV) : Hist h h' → Hist h (h'.say e)
theorem Hist.trans {a b c : HS} (h : Hist a b) (k : Hist b c) : Hist a c := by
  induction k with
  | refl => exact h
  | did kind len arg task cy _ h1 h2 ih => exact .did kind len arg task cy ih h1 h2
  | say e _ ih => exact .say e ih
theorem chooseK_hist {s : Kn} {j : JobV} (w : KOk s) (m : KMom s) (hj : j ∈ s.jobs) (hl : s.trace.length ≤ 100000001) : Hist (histK s) (histK (chooseK s j).1) ∧ (chooseK s j).1.p = s.p ∧ ((chooseK s j).2 = false → (chooseK s j).1 = readyK s j) := by
  have e0 : histK (readyK s j) = histK s := by rw [readyK_eq]; rfl
  have hp : (readyK s j).p = s.p := by rw [readyK_eq]
  have w2 := readyK_ok w hj
  unfold chooseK
  split
  · exact ⟨by rw [e0]; exact .refl _, hp, fun _ => rfl⟩
  · refine ⟨?_, hp, fun h => by cases h⟩
    have h2 := fastV_in (readyK s j).p (readyK s j).policy (staticK (readyK s j)) j.left (leastV (readyK s j).p (readyK s j).tasks (readyK s j).next (readyK s j).jobs (readyK s j).held (readyK s j).now j.deadline) (readyK s j).level w2.crit.1
    have h3 := w2.crit
    have e1 : histK { readyK s j with level := speedK (readyK s j) j } = histK s := e0
    rw [histK_did, e1]
    refine .did _ _ _ _ _ (.refl _) (.inr (.inr (.inl ⟨rfl, rfl, ?_, rfl⟩))) ⟨m.now0, m.big.2, by show s.trace.length ≤ _; omega⟩
    have : (histK s).p = (readyK s j).p := hp.symm
    rw [this]
    unfold speedK
    omega
theorem goK_hist {s : Kn} {n : Int} {j : JobV} (w : KOk s) (m : KMom s) (hl : s.trace.length ≤ 100000001) : Hist (histK s) (histK (goK s n j)) := by
  have h1 : Hist (histK s) ((histK s).did 1 (levOf s.p s.level).P s.level n 1) := .did _ _ _ _ _ (.refl _) (.inl ⟨rfl, rfl, w.lvl, rfl⟩) ⟨m.now0, m.big.2, by show s.trace.length ≤ _; omega⟩
  unfold goK
  split
  · exact h1
  · exact .say ⟨jhowV j, (jlessV j).task, (spentK s n).now, (jlessV j).deadline⟩ h1
theorem stepK_hist {s : Kn} (w : KOk s) (m : KMom s) (hl : s.trace.length ≤ 100000001) : Hist (histK s) (histK (stepK s)) := by
  have hb : 0 ≤ (histK s).now ∧ (histK s).now ≤ 16640 ∧ (histK s).trace.length ≤ 200000000 := ⟨m.now0, m.big.2, by show s.trace.length ≤ _; omega⟩
  unfold stepK
  split
  · next ha =>
    have hs := w.slpd ha
    unfold sleepingK
    split
    · exact .did _ _ _ _ _ (.refl _) (.inr (.inr (.inr (.inr (.inr ⟨rfl, rfl, hs, rfl⟩))))) hb
    · exact .did _ _ _ _ _ (.refl _) (.inr (.inr (.inr (.inr (.inl ⟨rfl, rfl, hs, rfl⟩))))) hb
  · next ha =>
    split
    · next hw =>
      have hj := (jobK_of (whoK_job w hw)).1
      unfold runsK
      split
      · exact .say ⟨3, (jobK s (whoK s).1).task, s.now, (jobK s (whoK s).1).deadline⟩ (.refl _)
      · split
        · have hc := chooseK_hist w m hj hl
          split
          · exact hc.1
          · next h2 =>
            have e := hc.2.2 (by simpa using h2)
            rw [e]
            have e0 : histK (readyK s (jobK s (whoK s).1)) = histK s := by rw [readyK_eq]; rfl
            have := goK_hist (n := (whoK s).1) (j := begK (jobK s (whoK s).1)) (readyK_ok w hj) (readyK_mom m) (by rw [readyK_eq]; exact hl)
            rw [e0] at this; exact this
        · exact goK_hist w m hl
    · unfold nobodyK
      split
      · next h =>
        have hin := bestF_in s.p.sleeps (w64 (readyV s.p s.tasks s.next s.now - s.now)) s.p.sleeps.length (Nat.le_refl _) h.1
        obtain ⟨k, hk, hlt⟩ := hin
        change (bestV s.p.sleeps (w64 (readyV s.p s.tasks s.next s.now - s.now))).1 = k at hk
        exact .did _ _ _ _ _ (.refl _) (.inr (.inr (.inr (.inl ⟨rfl, rfl, by show 0 ≤ _ ∧ _ < (s.p.sleeps.length : Int); omega, rfl⟩)))) hb
      · exact .did _ _ _ _ _ (.refl _) (.inr (.inl ⟨rfl, rfl, rfl⟩)) hb
theorem SameBut.hist {s t : Kn} (h : SameBut s t) : histK t = histK s := by
  unfold histK; rw [h.p, h.now, h.trace, h.meter, h.events]
theorem boundaryK_hist (s : Kn) : Hist (histK s) (histK (boundaryK s)) := by
  have h1 : Hist (histK s) (histK (releaseK s)) := releaseK_inv (J := fun t => Hist (histK s) (histK t)) (fun t x h _ _ => .say ⟨1, x.id, x.mom, (newJ t x).deadline⟩ h) (.refl _)
  have h2 : Hist (histK s) (histK (expireK (releaseK s))) := expireK_inv (J := fun t => Hist (histK s) (histK t)) (fun t x h _ _ => .say ⟨4, x.id, t.now, x.mom⟩ h) h1
  show Hist (histK s) (histK (awayK (expireK (releaseK s))))
  unfold awayK
  rw [(awayN_same (expireK (releaseK s)) _).hist]; exact h2
theorem roundK_hist {s : Kn} (w : KOk s) (m : KMom s) (hl : s.trace.length ≤ 100000001) : Hist (histK s) (histK (roundK s)) := (stepK_hist w m hl).trans (boundaryK_hist _)
theorem tickT_hist {e : Int} {s : Kn} (hI : TickI e s) (ht : KTr s) : Hist (histK s) (histK (tickT s e)) :=
  (tick_inv (J := fun t => Hist (histK s) (histK t) ∧ TrI e s t) hI (fun t h hI' hn => ⟨h.1.trans (roundK_hist hI'.ok hI'.mom (by have := h.2.len hI ht; omega)), h.2.next hI' hn⟩) ⟨.refl _, Nat.le_refl _⟩).1
theorem oneK_hist {s : Kn} {c : Nat} (h : KInv s c) (x : StepV) : Hist (histK s) (histK (oneK s x).1) := by
  unfold oneK
  repeat' split
  · unfold admitK; repeat' split
    all_goals exact .refl _
  · show Hist _ (histK (removeK s x.A).1)
    unfold removeK; repeat' split
    all_goals exact .refl _
  · show Hist _ (histK (arriveK s x.A x.B x.C).1)
    unfold arriveK; repeat' split
    all_goals exact .refl _
  · show Hist _ (histK (tickK s x.A).1)
    unfold tickK; split
    · exact .refl _
    · exact tickT_hist (h.tickI x.A) h.tr
  · show Hist _ (histK (lockK s x.A (x.kind == 6)).1)
    unfold lockK; repeat' split
    all_goals exact .refl _
  · show Hist _ (histK (policyK s x.A x.B).1)
    unfold policyK; repeat' split
    all_goals exact .refl _
  · show Hist _ (histK (timerK s x).1)
    unfold timerK; repeat' split
    all_goals exact .refl _
  · exact .refl _
theorem doK_hist {s : Kn} {c : Nat} (h : KInv s c) (x : StepV) : Hist (histK s) (histK (doK s x).1) := by
  unfold doK
  split
  · exact .refl _
  · split
    · exact (oneK_hist h x).trans (boundaryK_hist _)
    · exact oneK_hist h x
structure PlatE (p : PP) : Prop where
  lev : ∀ l ∈ p.levels, 1 ≤ l.P ∧ l.P ≤ 256 ∧ 0 ≤ l.E ∧ l.E ≤ 65536
  idle : 0 ≤ p.idle ∧ p.idle ≤ 65536
  sw : 0 ≤ p.switch ∧ p.switch ≤ 256
  swE : 0 ≤ p.switchE ∧ p.switchE ≤ 65536
  slp : ∀ s ∈ p.sleeps, 0 ≤ s.enter ∧ s.enter ≤ 256 ∧ 0 ≤ s.exit ∧ s.exit ≤ 256 ∧ 0 ≤ s.power ∧ s.power ≤ 65536 ∧ 0 ≤ s.enterE ∧ s.enterE ≤ 65536 ∧ 0 ≤ s.exitE ∧ s.exitE ≤ 65536
theorem tableQ_E {p : PP} (h : tableQ p = true) : PlatE p := by
  have t := tableQ_spec h
  unfold tableQ headQ levelsQ at h
  simp only [Bool.and_eq_true] at h
  obtain ⟨⟨⟨⟨⟨⟨h1, ⟨⟨h2, h3⟩, h4⟩⟩, h5⟩, h6⟩, h7, h8⟩, h9, h10⟩, h11, h12⟩ := h
  unfold rgB at h1 h6
  simp only [Bool.and_eq_true, decide_eq_true_eq] at h1 h6
  refine ⟨fun l hl => ?_, h1, t.sw, h6, fun s hs => ?_⟩
  · obtain ⟨i, hi, rfl⟩ := List.mem_iff_getElem.1 hl
    have := List.all_eq_true.1 h4 i (List.mem_range.2 hi)
    unfold lvlQ at this
    rw [List.getElem?_eq_getElem hi] at this
    simp only [Bool.and_eq_true] at this
    have h13 := this.1
    unfold rgB at h13
    simp only [Bool.and_eq_true, decide_eq_true_eq] at h13
    omega
  · have := awayQ_spec (t.slp s hs)
    omega
def lenI (l : List IntervalV) : Int := (l.map (·.len)).sum
theorem lenI_snoc (l : List IntervalV) (i : IntervalV) : lenI (l ++ [i]) = lenI l + i.len := by unfold lenI; simp
def LongOk (p : PP) (i : IntervalV) : Prop :=
  (i.kind = 1 ∧ (0 ≤ i.arg ∧ i.arg < (p.levels.length : Nat)) ∧ i.len = i.cycles * (levOf p i.arg).P) ∨ (i.kind = 2 ∧ i.cycles = 0) ∨ (i.kind = 3 ∧ i.cycles = 0 ∧ (0 ≤ i.arg ∧ i.arg < (p.levels.length : Nat)) ∧ i.len = p.switch) ∨
  (i.kind = 4 ∧ i.cycles = 0 ∧ (0 ≤ i.arg ∧ i.arg < (p.sleeps.length : Nat)) ∧ i.len = (slpOf p i.arg).enter) ∨ (i.kind = 5 ∧ i.cycles = 0 ∧ (0 ≤ i.arg ∧ i.arg < (p.sleeps.length : Nat))) ∨ (i.kind = 6 ∧ i.cycles = 0 ∧ (0 ≤ i.arg ∧ i.arg < (p.sleeps.length : Nat)) ∧ i.len = (slpOf p i.arg).exit)
structure Tile (p : PP) (l : List IntervalV) (now : Int) : Prop where
  fin : lenI l = now
  at_ : ∀ (n : Nat) i, l[n]? = some i → i.start = lenI (l.take n)
  ok : ∀ i ∈ l, 0 ≤ i.len ∧ 0 ≤ i.cycles ∧ LongOk p i
theorem Tile.nil (p : PP) : Tile p [] 0 := ⟨rfl, fun n i h => by simp at h, fun i h => by cases h⟩
theorem Tile.snoc {p : PP} {l : List IntervalV} {now : Int} (h : Tile p l now) {i : IntervalV} (h1 : i.start = now) (h2 : 0 ≤ i.len ∧ 0 ≤ i.cycles ∧ LongOk p i) : Tile p (l ++ [i]) (now + i.len) where
  fin := by rw [lenI_snoc, h.fin]
  at_ := fun n j hj => by
    by_cases hn : n < l.length
    · rw [List.getElem?_append_left hn] at hj
      rw [h.at_ n j hj, List.take_append_of_le_length (by omega)]
    · have hn2 : n = l.length := by
        have := (List.getElem?_eq_some_iff.1 hj).1
        rw [List.length_append, List.length_singleton] at this; omega
      subst hn2
      rw [List.getElem?_append_right (Nat.le_refl _), Nat.sub_self, List.getElem?_cons_zero, Option.some.injEq] at hj
      subst hj
      rw [List.take_left, h.fin, h1]
  ok := fun j hj => by
    rcases List.mem_append.1 hj with hj | hj
    · exact h.ok j hj
    · rw [List.mem_singleton] at hj; subst hj; exact h2
theorem Tile.init {p : PP} {l : List IntervalV} {i : IntervalV} {now : Int} (h : Tile p (l ++ [i]) now) : Tile p l i.start ∧ i.start + i.len = now ∧ 0 ≤ i.len ∧ 0 ≤ i.cycles ∧ LongOk p i := by
  have h1 : i.start = lenI l := by
    have := h.at_ l.length i (by rw [List.getElem?_append_right (Nat.le_refl _), Nat.sub_self]; rfl)
    rwa [List.take_left] at this
  refine ⟨⟨h1.symm, fun n j hj => ?_, fun j hj => h.ok j (List.mem_append.2 (.inl hj))⟩, ?_, h.ok i (by simp)⟩
  · have hn := (List.getElem?_eq_some_iff.1 hj).1
    have := h.at_ n j (by rw [List.getElem?_append_left hn]; exact hj)
    rwa [List.take_append_of_le_length (by omega)] at this
  · have := h.fin
    rw [lenI_snoc] at this; omega
theorem lenI_nn {p : PP} : ∀ {l : List IntervalV}, (∀ i ∈ l, 0 ≤ i.len ∧ 0 ≤ i.cycles ∧ LongOk p i) → 0 ≤ lenI l
  | [], _ => Int.le_refl _
  | i :: l, h => by
    have := lenI_nn (l := l) fun j hj => h j (List.mem_cons_of_mem _ hj)
    have h2 := (h i (by simp)).1
    unfold lenI at *
    rw [List.map_cons, List.sum_cons]; omega
theorem Tile.nn {p : PP} {l : List IntervalV} {now : Int} (h : Tile p l now) : 0 ≤ now := h.fin ▸ lenI_nn h.ok
def eX (p : PP) (i : IntervalV) : Int :=
  if i.kind = 1 then i.cycles * (levOf p i.arg).E
  else if i.kind = 2 then i.len * p.idle
  else if i.kind = 3 then p.switchE
  else if i.kind = 4 then (slpOf p i.arg).enterE
  else if i.kind = 5 then i.len * (slpOf p i.arg).power
  else if i.kind = 6 then (slpOf p i.arg).exitE
  else 0
theorem mul_up {a b c d : Int} (h1 : 0 ≤ a) (h2 : a ≤ c) (h3 : 0 ≤ b) (h4 : b ≤ d) : 0 ≤ a * b ∧ a * b ≤ c * d :=
  ⟨Int.mul_nonneg h1 h3, Int.le_trans (Int.mul_le_mul_of_nonneg_left h4 h1) (Int.mul_le_mul_of_nonneg_right h2 (by omega))⟩
theorem eX_in {p : PP} (E : PlatE p) {i : IntervalV} (h0 : 0 ≤ i.len) (h1 : 0 ≤ i.cycles) (h : LongOk p i) : 0 ≤ eX p i ∧ eX p i ≤ 65536 * (i.len + 1) := by
  unfold eX
  rcases h with ⟨k, ha, hl⟩ | ⟨k, _⟩ | ⟨k, _, ha, hl⟩ | ⟨k, _, ha, hl⟩ | ⟨k, _, ha⟩ | ⟨k, _, ha, hl⟩
  · rw [if_pos k]
    have e := E.lev _ (levOf_mem ha)
    have h2 : i.cycles ≤ i.len := by
      rw [hl]
      have := Int.mul_le_mul_of_nonneg_left e.1 h1
      omega
    have := mul_up h1 h2 e.2.2.1 e.2.2.2
    omega
  · rw [if_neg (by omega), if_pos k]
    have := mul_up h0 (Int.le_refl _) E.idle.1 E.idle.2
    omega
  · rw [if_neg (by omega), if_neg (by omega), if_pos k]
    have := E.swE; omega
  · rw [if_neg (by omega), if_neg (by omega), if_neg (by omega), if_pos k]
    have := E.slp _ (slpOf_mem ha); omega
  · rw [if_neg (by omega), if_neg (by omega), if_neg (by omega), if_neg (by omega), if_pos k]
    have e := E.slp _ (slpOf_mem ha)
    have := mul_up h0 (Int.le_refl _) e.2.2.2.2.1 e.2.2.2.2.2.1
    omega
  · rw [if_neg (by omega), if_neg (by omega), if_neg (by omega), if_neg (by omega), if_neg (by omega), if_pos k]
    have := E.slp _ (slpOf_mem ha); omega
def sumX (p : PP) (k : Int → Bool) (l : List IntervalV) : Int := (l.map fun i => if k i.kind = true then eX p i else 0).sum
theorem sumX_snoc (p : PP) (k : Int → Bool) (l : List IntervalV) (i : IntervalV) : sumX p k (l ++ [i]) = sumX p k l + (if k i.kind = true then eX p i else 0) := by unfold sumX; simp
theorem sumX_in {p : PP} (E : PlatE p) (k : Int → Bool) : ∀ {l : List IntervalV}, (∀ i ∈ l, 0 ≤ i.len ∧ 0 ≤ i.cycles ∧ LongOk p i) → 0 ≤ sumX p k l ∧ sumX p k l ≤ 65536 * (lenI l + l.length)
  | [], _ => ⟨Int.le_refl _, Int.le_refl _⟩
  | i :: l, h => by
    have ih := sumX_in E k (l := l) fun j hj => h j (List.mem_cons_of_mem _ hj)
    obtain ⟨a, b, c⟩ := h i (by simp)
    have h2 := eX_in E a b c
    have e1 : sumX p k (i :: l) = (if k i.kind = true then eX p i else 0) + sumX p k l := by unfold sumX; rw [List.map_cons, List.sum_cons]
    have e2 : lenI (i :: l) = i.len + lenI l := by unfold lenI; rw [List.map_cons, List.sum_cons]
    rw [e1, e2, List.length_cons]
    split <;> omega
def isSlp (k : Int) : Bool := k == 4 || (k == 5 || k == 6)
def MX (p : PP) (l : List IntervalV) : MeterV := ⟨sumX p (· == 1) l, sumX p (· == 2) l, sumX p (· == 3) l, sumX p isSlp l⟩
theorem LongOk.kinds {p : PP} {i : IntervalV} (h : LongOk p i) : 1 ≤ i.kind ∧ i.kind ≤ 6 := by
  rcases h with h | h | h | h | h | h <;> omega
theorem energyV_eX {p : PP} (i : IntervalV) (h : -9223372036854775808 ≤ eX p i ∧ eX p i ≤ 9223372036854775807) : energyV p i = eX p i := by
  unfold energyV eX at *
  repeat' split
  all_goals first | rfl | skip
  all_goals
    refine w64_in ?_
    simp_all
theorem meterAdd_MX {p : PP} (E : PlatE p) {l : List IntervalV} {i : IntervalV} {now : Int} (h : Tile p (l ++ [i]) now) (hn : now ≤ 1000000000) (hl : l.length ≤ 1000000000) : meterAdd p (MX p l) i = MX p (l ++ [i]) := by
  have hb : ∀ k : Int → Bool, 0 ≤ sumX p k (l ++ [i]) ∧ sumX p k (l ++ [i]) ≤ 131072000100000 := fun k => by
    have := sumX_in E k h.ok
    rw [h.fin, List.length_append, List.length_singleton] at this
    omega
  obtain ⟨ht, h1, h2, h3, h4⟩ := h.init
  have hx := eX_in E h2 h3 h4
  have hnn := ht.nn
  have he : energyV p i = eX p i := energyV_eX i (by omega)
  have h5 := h4.kinds
  have q1 := hb (· == 1)
  have q2 := hb (· == 2)
  have q3 := hb (· == 3)
  have q4 := hb isSlp
  have s1 := sumX_snoc p (· == 1) l i
  have s2 := sumX_snoc p (· == 2) l i
  have s3 := sumX_snoc p (· == 3) l i
  have s4 := sumX_snoc p isSlp l i
  unfold meterAdd MX
  rw [he]
  unfold isSlp at *
  have h6 : i.kind = 1 ∨ i.kind = 2 ∨ i.kind = 3 ∨ i.kind = 4 ∨ i.kind = 5 ∨ i.kind = 6 := by omega
  rcases h6 with k | k | k | k | k | k <;> simp only [k] at s1 s2 s3 s4 ⊢ <;> simp at s1 s2 s3 s4 ⊢ <;> (try rw [w64_in (by omega)]) <;> omega
structure HInv (h : HS) : Prop where
  E : PlatE h.p
  tile : Tile h.p h.trace h.now
  sum : h.meter = MX h.p h.trace
structure Grow (a b : HS) : Prop where
  p : b.p = a.p
  now : a.now ≤ b.now
  ev : ∃ l, b.events = a.events ++ l
  len : a.trace.length ≤ b.trace.length
  tr : ∀ (n : Nat) x, a.trace[n]? = some x → ∃ y, b.trace[n]? = some y ∧ (n + 1 < a.trace.length → y = x) ∧ y.kind = x.kind ∧ y.start = x.start ∧ y.arg = x.arg ∧ y.task = x.task ∧ x.len ≤ y.len ∧ x.cycles ≤ y.cycles
  met : a.meter.run ≤ b.meter.run ∧ a.meter.idle ≤ b.meter.idle ∧ a.meter.switch ≤ b.meter.switch ∧ a.meter.sleep ≤ b.meter.sleep
theorem Grow.refl (a : HS) : Grow a a := ⟨rfl, Int.le_refl _, ⟨[], by simp⟩, Nat.le_refl _, fun n x h => ⟨x, h, fun _ => rfl, rfl, rfl, rfl, rfl, Int.le_refl _, Int.le_refl _⟩, ⟨Int.le_refl _, Int.le_refl _, Int.le_refl _, Int.le_refl _⟩⟩
theorem Grow.trans {a b c : HS} (h : Grow a b) (k : Grow b c) : Grow a c where
  p := k.p.trans h.p
  now := Int.le_trans h.now k.now
  ev := by
    obtain ⟨l, e⟩ := h.ev
    obtain ⟨m, e2⟩ := k.ev
    exact ⟨l ++ m, by rw [e2, e, List.append_assoc]⟩
  len := Nat.le_trans h.len k.len
  tr := fun n x hx => by
    obtain ⟨y, hy, y1, y2, y3, y4, y5, y6, y7⟩ := h.tr n x hx
    obtain ⟨z, hz, z1, z2, z3, z4, z5, z6, z7⟩ := k.tr n y hy
    refine ⟨z, hz, fun hn => ?_, z2.trans y2, z3.trans y3, z4.trans y4, z5.trans y5, Int.le_trans y6 z6, Int.le_trans y7 z7⟩
    rw [z1 (by have := h.len; omega), y1 hn]
  met := ⟨Int.le_trans h.met.1 k.met.1, Int.le_trans h.met.2.1 k.met.2.1, Int.le_trans h.met.2.2.1 k.met.2.2.1, Int.le_trans h.met.2.2.2 k.met.2.2.2⟩
theorem DidOk.long {p : PP} (E : PlatE p) {kind len arg cy : Int} (h : DidOk p kind len arg cy) (start task : Int) : 0 ≤ len ∧ len ≤ 256 ∧ 0 ≤ cy ∧ cy ≤ 1 ∧ LongOk p ⟨kind, start, len, arg, task, cy⟩ := by
  unfold LongOk
  dsimp only
  rcases h with ⟨k, c, ha, hl⟩ | ⟨k, c, hl⟩ | ⟨k, c, ha, hl⟩ | ⟨k, c, ha, hl⟩ | ⟨k, c, ha, hl⟩ | ⟨k, c, ha, hl⟩
  · have e := E.lev _ (levOf_mem ha)
    exact ⟨by omega, by omega, by omega, by omega, .inl ⟨k, ha, by rw [c, hl, Int.one_mul]⟩⟩
  · exact ⟨by omega, by omega, by omega, by omega, .inr (.inl ⟨k, c⟩)⟩
  · have := E.sw
    exact ⟨by omega, by omega, by omega, by omega, .inr (.inr (.inl ⟨k, c, ha, hl⟩))⟩
  · have := E.slp _ (slpOf_mem ha)
    exact ⟨by omega, by omega, by omega, by omega, .inr (.inr (.inr (.inl ⟨k, c, ha, hl⟩)))⟩
  · exact ⟨by omega, by omega, by omega, by omega, .inr (.inr (.inr (.inr (.inl ⟨k, c, ha⟩))))⟩
  · have := E.slp _ (slpOf_mem ha)
    exact ⟨by omega, by omega, by omega, by omega, .inr (.inr (.inr (.inr (.inr ⟨k, c, ha, hl⟩))))⟩
theorem joinB_spec {a b : IntervalV} (h : joinB a b = true) : (a.kind = 1 ∨ a.kind = 2 ∨ a.kind = 5) ∧ a.kind = b.kind ∧ a.arg = b.arg ∧ a.task = b.task := by
  unfold joinB longB at h
  rw [Bool.not_eq_true'] at h
  simp only [Bool.or_eq_false_iff, Bool.not_eq_false', bne_eq_false_iff_eq, Bool.or_eq_true, beq_iff_eq] at h
  obtain ⟨⟨⟨⟨h1, h2⟩, h3⟩, h4⟩, h5⟩ := h
  exact ⟨by omega, h2, h3, h4⟩
theorem eX_join {p : PP} {a b c : IntervalV} (hk : a.kind = 1 ∨ a.kind = 2 ∨ a.kind = 5) (h1 : a.kind = b.kind) (h2 : a.arg = b.arg) (c1 : c.kind = a.kind) (c2 : c.arg = a.arg) (c3 : c.len = a.len + b.len) (c4 : c.cycles = a.cycles + b.cycles) : eX p c = eX p a + eX p b := by
  unfold eX
  rw [c1, c2, c3, c4, ← h1, ← h2]
  rcases hk with k | k | k <;> rw [k] <;> simp [Int.add_mul]
theorem LongOk.join {p : PP} {a b c : IntervalV} (ha : LongOk p a) (hb : LongOk p b) (hk : a.kind = 1 ∨ a.kind = 2 ∨ a.kind = 5) (h1 : a.kind = b.kind) (h2 : a.arg = b.arg) (c1 : c.kind = a.kind) (c2 : c.arg = a.arg) (c3 : c.len = a.len + b.len) (c4 : c.cycles = a.cycles + b.cycles) : LongOk p c := by
  unfold LongOk at *
  rw [c1, c2, c3, c4]
  rcases hk with k | k | k
  · have ea : a.len = a.cycles * (levOf p a.arg).P ∧ (0 ≤ a.arg ∧ a.arg < (p.levels.length : Nat)) := by
      rcases ha with ⟨_, x, y⟩ | ⟨y, _⟩ | ⟨y, _⟩ | ⟨y, _⟩ | ⟨y, _⟩ | ⟨y, _⟩
      · exact ⟨y, x⟩
      all_goals (exfalso; omega)
    have eb : b.len = b.cycles * (levOf p a.arg).P := by
      rcases hb with ⟨_, x, y⟩ | ⟨y, _⟩ | ⟨y, _⟩ | ⟨y, _⟩ | ⟨y, _⟩ | ⟨y, _⟩
      · rw [h2]; exact y
      all_goals (exfalso; omega)
    exact .inl ⟨k, ea.2, by rw [ea.1, eb, Int.add_mul]⟩
  · exact .inr (.inl ⟨k, by rcases ha with y | y | y | y | y | y <;> rcases hb with z | z | z | z | z | z <;> omega⟩)
  · have ea : a.cycles = 0 ∧ (0 ≤ a.arg ∧ a.arg < (p.sleeps.length : Nat)) := by
      rcases ha with ⟨y, _⟩ | ⟨y, _⟩ | ⟨y, _⟩ | ⟨y, _⟩ | ⟨_, x, y⟩ | ⟨y, _⟩
      · omega
      · omega
      · omega
      · omega
      · exact ⟨x, y⟩
      · omega
    have eb : b.cycles = 0 := by rcases hb with z | z | z | z | z | z <;> omega
    exact .inr (.inr (.inr (.inr (.inl ⟨k, by omega, ea.2⟩))))
theorem HInv.did {h : HS} (H : HInv h) {kind len arg task cy : Int} (hd : DidOk h.p kind len arg cy) (hb : 0 ≤ h.now ∧ h.now ≤ 16640 ∧ h.trace.length ≤ 200000000) : HInv (h.did kind len arg task cy) ∧ Grow h (h.did kind len arg task cy) := by
  obtain ⟨l1, l2, l3, l4, l5⟩ := hd.long H.E h.now task
  have hnow : w64 (h.now + len) = h.now + len := w64_in (by omega)
  have hX := eX_in H.E l1 l3 l5
  -- as if nothing were joined
  have t1 : Tile h.p (h.trace ++ [⟨kind, h.now, len, arg, task, cy⟩]) (h.now + len) := H.tile.snoc rfl ⟨l1, l3, l5⟩
  have m1 : meterAdd h.p h.meter ⟨kind, h.now, len, arg, task, cy⟩ = MX h.p (h.trace ++ [⟨kind, h.now, len, arg, task, cy⟩]) := by
    rw [H.sum]
    exact meterAdd_MX H.E t1 (by omega) (by omega)
  have g1 : ∀ k : Int → Bool, sumX h.p k h.trace ≤ sumX h.p k (h.trace ++ [⟨kind, h.now, len, arg, task, cy⟩]) := fun k => by
    rw [sumX_snoc]; split <;> omega
  have gm : h.meter.run ≤ (MX h.p (h.trace ++ [⟨kind, h.now, len, arg, task, cy⟩])).run ∧ h.meter.idle ≤ (MX h.p (h.trace ++ [⟨kind, h.now, len, arg, task, cy⟩])).idle ∧ h.meter.switch ≤ (MX h.p (h.trace ++ [⟨kind, h.now, len, arg, task, cy⟩])).switch ∧ h.meter.sleep ≤ (MX h.p (h.trace ++ [⟨kind, h.now, len, arg, task, cy⟩])).sleep := by
    rw [H.sum]; exact ⟨g1 (· == 1), g1 (· == 2), g1 (· == 3), g1 isSlp⟩
  have hno : addV h.trace ⟨kind, h.now, len, arg, task, cy⟩ = h.trace ++ [⟨kind, h.now, len, arg, task, cy⟩] → HInv (h.did kind len arg task cy) ∧ Grow h (h.did kind len arg task cy) := fun ea => by
    refine ⟨⟨H.E, ?_, ?_⟩, rfl, ?_, ⟨[], by show h.events = _; simp⟩, ?_, fun n x hx => ?_, ?_⟩
    · show Tile h.p (addV h.trace _) (w64 (h.now + len))
      rw [ea, hnow]; exact t1
    · show meterAdd h.p h.meter _ = MX h.p (addV h.trace _)
      rw [ea]; exact m1
    · show h.now ≤ w64 (h.now + len)
      omega
    · show h.trace.length ≤ (addV h.trace _).length
      rw [ea, List.length_append]; omega
    · refine ⟨x, ?_, fun _ => rfl, rfl, rfl, rfl, rfl, Int.le_refl _, Int.le_refl _⟩
      show (addV h.trace _)[n]? = _
      rw [ea, List.getElem?_append_left (List.getElem?_eq_some_iff.1 hx).1]; exact hx
    · show _ ≤ (meterAdd h.p h.meter _).run ∧ _ ≤ (meterAdd h.p h.meter _).idle ∧ _ ≤ (meterAdd h.p h.meter _).switch ∧ _ ≤ (meterAdd h.p h.meter _).sleep
      rw [m1]; exact gm
  rcases snoc_cases h.trace with h0 | ⟨ys, l, e0⟩
  · exact hno (by rw [h0]; rfl)
  · cases hj : joinB l ⟨kind, h.now, len, arg, task, cy⟩ with
    | false => exact hno (by rw [e0, addV_no hj])
    | true =>
      have ea : addV h.trace ⟨kind, h.now, len, arg, task, cy⟩ = ys ++ [joinV l ⟨kind, h.now, len, arg, task, cy⟩] := by rw [e0, addV_yes hj]
      obtain ⟨k1, k2, k3, k4⟩ := joinB_spec hj
      dsimp only at k2 k3 k4
      have t0 := H.tile
      rw [e0] at t0
      obtain ⟨ti, i1, i2, i3, i4⟩ := t0.init
      have inn := ti.nn
      have hcy : l.cycles ≤ 16640 := by
        rcases i4 with ⟨_, ha, hl⟩ | ⟨_, h⟩ | ⟨_, h, _⟩ | ⟨_, h, _⟩ | ⟨_, h, _⟩ | ⟨_, h, _⟩
        · have e := H.E.lev _ (levOf_mem ha)
          have := Int.mul_le_mul_of_nonneg_left e.1 i3
          omega
        all_goals omega
      have j1 : (joinV l ⟨kind, h.now, len, arg, task, cy⟩).len = l.len + len := w64_in (by dsimp only; omega)
      have j2 : (joinV l ⟨kind, h.now, len, arg, task, cy⟩).cycles = l.cycles + cy := w64_in (by dsimp only; omega)
      have j3 : LongOk h.p (joinV l ⟨kind, h.now, len, arg, task, cy⟩) := i4.join l5 k1 k2 k3 rfl rfl j1 j2
      have t2 : Tile h.p (ys ++ [joinV l ⟨kind, h.now, len, arg, task, cy⟩]) (h.now + len) := by
        have := ti.snoc (i := joinV l ⟨kind, h.now, len, arg, task, cy⟩) rfl ⟨by omega, by omega, j3⟩
        rw [j1] at this
        have e : l.start + (l.len + len) = h.now + len := by omega
        rwa [e] at this
      have j4 : ∀ k : Int → Bool, sumX h.p k (h.trace ++ [⟨kind, h.now, len, arg, task, cy⟩]) = sumX h.p k (ys ++ [joinV l ⟨kind, h.now, len, arg, task, cy⟩]) := fun k => by
        have e1 := eX_join (p := h.p) (a := l) (b := ⟨kind, h.now, len, arg, task, cy⟩) (c := joinV l ⟨kind, h.now, len, arg, task, cy⟩) k1 k2 k3 rfl rfl j1 j2
        have e2 : (joinV l ⟨kind, h.now, len, arg, task, cy⟩).kind = l.kind := rfl
        rw [sumX_snoc, e0, sumX_snoc, sumX_snoc, e1, e2]
        dsimp only
        rw [← k2]
        split <;> omega
      have j5 : MX h.p (h.trace ++ [⟨kind, h.now, len, arg, task, cy⟩]) = MX h.p (ys ++ [joinV l ⟨kind, h.now, len, arg, task, cy⟩]) := by
        unfold MX; rw [j4, j4, j4, j4]
      refine ⟨⟨H.E, ?_, ?_⟩, rfl, ?_, ⟨[], by show h.events = _; simp⟩, ?_, fun n x hx => ?_, ?_⟩
      · show Tile h.p (addV h.trace _) (w64 (h.now + len))
        rw [ea, hnow]; exact t2
      · show meterAdd h.p h.meter _ = MX h.p (addV h.trace _)
        rw [ea, m1, j5]
      · show h.now ≤ w64 (h.now + len)
        omega
      · show h.trace.length ≤ (addV h.trace _).length
        rw [ea, e0, List.length_append, List.length_append]; exact Nat.le_refl _
      · show ∃ y, (addV h.trace _)[n]? = some y ∧ _
        rw [ea]
        rw [e0] at hx ⊢
        by_cases hn : n < ys.length
        · rw [List.getElem?_append_left hn] at hx
          exact ⟨x, by rw [List.getElem?_append_left hn]; exact hx, fun _ => rfl, rfl, rfl, rfl, rfl, Int.le_refl _, Int.le_refl _⟩
        · have hn2 : n = ys.length := by
            have := (List.getElem?_eq_some_iff.1 hx).1
            rw [List.length_append, List.length_singleton] at this; omega
          subst hn2
          rw [List.getElem?_append_right (Nat.le_refl _), Nat.sub_self, List.getElem?_cons_zero, Option.some.injEq] at hx
          subst hx
          refine ⟨joinV l ⟨kind, h.now, len, arg, task, cy⟩, by rw [List.getElem?_append_right (Nat.le_refl _), Nat.sub_self]; rfl, fun hlt => ?_, rfl, rfl, rfl, rfl, by omega, by omega⟩
          rw [List.length_append, List.length_singleton] at hlt; omega
      · show _ ≤ (meterAdd h.p h.meter _).run ∧ _ ≤ (meterAdd h.p h.meter _).idle ∧ _ ≤ (meterAdd h.p h.meter _).switch ∧ _ ≤ (meterAdd h.p h.meter _).sleep
        rw [m1]; exact gm
theorem Hist.inv {a b : HS} (h : Hist a b) (H : HInv a) : HInv b ∧ Grow a b := by
  induction h with
  | refl => exact ⟨H, Grow.refl _⟩
  | did kind len arg task cy _ h1 h2 ih =>
    have := ih.1.did (task := task) h1 h2
    exact ⟨this.1, ih.2.trans this.2⟩
  | say e _ ih =>
    refine ⟨⟨ih.1.E, ih.1.tile, ih.1.sum⟩, ih.2.trans ⟨rfl, Int.le_refl _, ⟨[e], rfl⟩, Nat.le_refl _, fun n x h => ⟨x, h, fun _ => rfl, rfl, rfl, rfl, rfl, Int.le_refl _, Int.le_refl _⟩, ⟨Int.le_refl _, Int.le_refl _, Int.le_refl _, Int.le_refl _⟩⟩⟩
theorem newK_hist {p : PP} (h : tableQ p = true) : HInv (histK (newK p)) := ⟨tableQ_E h, Tile.nil p, rfl⟩
end Go.Proofs.YtflgnpidelkkpaaGreat
