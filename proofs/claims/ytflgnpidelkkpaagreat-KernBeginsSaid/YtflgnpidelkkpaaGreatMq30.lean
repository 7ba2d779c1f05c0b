/- part 30 of the proof: contracts of the functions that the law reaches, and plain laws. -/
import Derived.Test.YtflgnpidelkkpaaGreatMq7
import Derived.Test.YtflgnpidelkkpaaGreatMq29
namespace Go.Proofs.YtflgnpidelkkpaaGreat
set_option maxRecDepth 8000
set_option maxHeartbeats 1000000
set_option linter.unusedVariables false
set_option linter.unusedSimpArgs false
attribute [local irreducible] W X WL WA WB WG WO Rn Own one splice Arr Spec WQ WH Qn
theorem kJobs_nil (F : Hp) : Spec Tryz.prog 47 [.pointer none] F [] fun v hs' => v = .slice none 0 0 ∧ hs' = [] := by
  refine Spec.enter Tryz.func47 rfl Tryz.ntmps47 rfl fun B => ?_
  repeat' (first | refine soA ?_ | refine sgA ?_ | refine sxA ?_ | refine sbA ?_ | refine fun (Q : Post) hQ => ?_ | refine fun (nb : Nat) => (?_ : WL _ _ _ _ _ _ _ _ _) | (refine WL.guard rfl rfl rfl (fun h => ?_) (fun h => ?_) <;> (try dsimp only at h)))
  ((refine seE ?_); refine ⟨[], Keep.nil, ?_⟩)
  exact ⟨rfl, rfl⟩
theorem kStack_nil (F : Hp) : Spec Tryz.prog 48 [.pointer none] F [] fun v hs' => v = .slice none 0 0 ∧ hs' = [] := by
  refine Spec.enter Tryz.func48 rfl Tryz.ntmps48 rfl fun B => ?_
  repeat' (first | refine soA ?_ | refine sgA ?_ | refine sxA ?_ | refine sbA ?_ | refine fun (Q : Post) hQ => ?_ | refine fun (nb : Nat) => (?_ : WL _ _ _ _ _ _ _ _ _) | (refine WL.guard rfl rfl rfl (fun h => ?_) (fun h => ?_) <;> (try dsimp only at h)))
  ((refine seE ?_); refine ⟨[], Keep.nil, ?_⟩)
  exact ⟨rfl, rfl⟩
theorem kHeld_nil (F : Hp) : Spec Tryz.prog 49 [.pointer none] F [] fun v hs' => v = .slice none 0 0 ∧ hs' = [] := by
  refine Spec.enter Tryz.func49 rfl Tryz.ntmps49 rfl fun B => ?_
  repeat' (first | refine soA ?_ | refine sgA ?_ | refine sxA ?_ | refine sbA ?_ | refine fun (Q : Post) hQ => ?_ | refine fun (nb : Nat) => (?_ : WL _ _ _ _ _ _ _ _ _) | (refine WL.guard rfl rfl rfl (fun h => ?_) (fun h => ?_) <;> (try dsimp only at h)))
  ((refine seE ?_); refine ⟨[], Keep.nil, ?_⟩)
  exact ⟨rfl, rfl⟩
theorem kTasks_nil (F : Hp) : Spec Tryz.prog 44 [.pointer none] F [] fun v hs' => v = .slice none 0 0 ∧ hs' = [] := by
  refine Spec.enter Tryz.func44 rfl Tryz.ntmps44 rfl fun B => ?_
  repeat' (first | refine soA ?_ | refine sgA ?_ | refine sxA ?_ | refine sbA ?_ | refine fun (Q : Post) hQ => ?_ | refine fun (nb : Nat) => (?_ : WL _ _ _ _ _ _ _ _ _) | (refine WL.guard rfl rfl rfl (fun h => ?_) (fun h => ?_) <;> (try dsimp only at h)))
  ((refine seE ?_); refine ⟨[], Keep.nil, ?_⟩)
  exact ⟨rfl, rfl⟩
theorem kTrace_nil (F : Hp) : Spec Tryz.prog 22 [.pointer none] F [] fun v hs' => v = .slice none 0 0 ∧ hs' = [] := by
  refine Spec.enter Tryz.func22 rfl Tryz.ntmps22 rfl fun B => ?_
  repeat' (first | refine soA ?_ | refine sgA ?_ | refine sxA ?_ | refine sbA ?_ | refine fun (Q : Post) hQ => ?_ | refine fun (nb : Nat) => (?_ : WL _ _ _ _ _ _ _ _ _) | (refine WL.guard rfl rfl rfl (fun h => ?_) (fun h => ?_) <;> (try dsimp only at h)))
  ((refine seE ?_); refine ⟨[], Keep.nil, ?_⟩)
  exact ⟨rfl, rfl⟩
theorem kEvents_nil (F : Hp) : Spec Tryz.prog 28 [.pointer none] F [] fun v hs' => v = .slice none 0 0 ∧ hs' = [] := by
  refine Spec.enter Tryz.func28 rfl Tryz.ntmps28 rfl fun B => ?_
  repeat' (first | refine soA ?_ | refine sgA ?_ | refine sxA ?_ | refine sbA ?_ | refine fun (Q : Post) hQ => ?_ | refine fun (nb : Nat) => (?_ : WL _ _ _ _ _ _ _ _ _) | (refine WL.guard rfl rfl rfl (fun h => ?_) (fun h => ?_) <;> (try dsimp only at h)))
  ((refine seE ?_); refine ⟨[], Keep.nil, ?_⟩)
  exact ⟨rfl, rfl⟩
theorem kNext_nil (n : Int) (F : Hp) : Spec Tryz.prog 37 [.pointer none, .int .i64 n] F [] fun v hs' => v = .int .i64 0 ∧ hs' = [] := by
  refine Spec.enter Tryz.func37 rfl Tryz.ntmps37 rfl fun B => ?_
  repeat' (first | refine soA ?_ | refine sgA ?_ | refine sxA ?_ | refine sbA ?_ | refine fun (Q : Post) hQ => ?_ | refine fun (nb : Nat) => (?_ : WL _ _ _ _ _ _ _ _ _) | (refine WL.guard rfl rfl rfl (fun h => ?_) (fun h => ?_) <;> (try dsimp only at h)))
  ((refine seE ?_); refine ⟨[], Keep.nil, ?_⟩)
  exact ⟨rfl, rfl⟩
theorem kUsed_nil (n : Int) (F : Hp) : Spec Tryz.prog 39 [.pointer none, .int .i64 n] F [] fun v hs' => v = .int .i64 0 ∧ hs' = [] := by
  refine Spec.enter Tryz.func39 rfl Tryz.ntmps39 rfl fun B => ?_
  repeat' (first | refine soA ?_ | refine sgA ?_ | refine sxA ?_ | refine sbA ?_ | refine fun (Q : Post) hQ => ?_ | refine fun (nb : Nat) => (?_ : WL _ _ _ _ _ _ _ _ _) | (refine WL.guard rfl rfl rfl (fun h => ?_) (fun h => ?_) <;> (try dsimp only at h)))
  ((refine seE ?_); refine ⟨[], Keep.nil, ?_⟩)
  exact ⟨rfl, rfl⟩
theorem kSpent_nil (n : Int) (F : Hp) : Spec Tryz.prog 42 [.pointer none, .int .i64 n] F [] fun v hs' => v = .int .i64 0 ∧ hs' = [] := by
  refine Spec.enter Tryz.func42 rfl Tryz.ntmps42 rfl fun B => ?_
  repeat' (first | refine soA ?_ | refine sgA ?_ | refine sxA ?_ | refine sbA ?_ | refine fun (Q : Post) hQ => ?_ | refine fun (nb : Nat) => (?_ : WL _ _ _ _ _ _ _ _ _) | (refine WL.guard rfl rfl rfl (fun h => ?_) (fun h => ?_) <;> (try dsimp only at h)))
  ((refine seE ?_); refine ⟨[], Keep.nil, ?_⟩)
  exact ⟨rfl, rfl⟩
theorem kDevice_nil (n : Int) (F : Hp) : Spec Tryz.prog 41 [.pointer none, .int .i64 n] F [] fun v hs' => v = .agg (⟨0, 0⟩ : DevV).enc.toArray ∧ hs' = [] := by
  refine Spec.enter Tryz.func41 rfl Tryz.ntmps41 rfl fun B => ?_
  repeat' (first | refine soA ?_ | refine sgA ?_ | refine sxA ?_ | refine sbA ?_ | refine fun (Q : Post) hQ => ?_ | refine fun (nb : Nat) => (?_ : WL _ _ _ _ _ _ _ _ _) | (refine WL.guard rfl rfl rfl (fun h => ?_) (fun h => ?_) <;> (try dsimp only at h)))
  ((refine seE ?_); refine ⟨[], Keep.nil, ?_⟩)
  exact ⟨rfl, rfl⟩
theorem kMeter_nil (F : Hp) : Spec Tryz.prog 25 [.pointer none] F [] fun v hs' => v = .agg (⟨0, 0, 0, 0⟩ : MeterV).enc.toArray ∧ hs' = [] := by
  refine Spec.enter Tryz.func25 rfl Tryz.ntmps25 rfl fun B => ?_
  repeat' (first | refine soA ?_ | refine sgA ?_ | refine sxA ?_ | refine sbA ?_ | refine fun (Q : Post) hQ => ?_ | refine fun (nb : Nat) => (?_ : WL _ _ _ _ _ _ _ _ _) | (refine WL.guard rfl rfl rfl (fun h => ?_) (fun h => ?_) <;> (try dsimp only at h)))
  ((refine seE ?_); refine ⟨[], Keep.nil, ?_⟩)
  exact ⟨rfl, rfl⟩
end Go.Proofs.YtflgnpidelkkpaaGreat
namespace Go.Proofs.YtflgnpidelkkpaaGreat
set_option maxRecDepth 8000
set_option maxHeartbeats 1000000
set_option linter.unusedVariables false
set_option linter.unusedSimpArgs false
attribute [local irreducible] W X WL WA WB WG WO Rn Own one splice Arr Spec WQ WH Qn
theorem kDo_nil (x : StepV) (F : Hp) : Spec Tryz.prog 17 [.pointer none, .agg x.enc.toArray] F [] fun v hs' => v = .tuple #[.int .i64 0, .int .i64 1] ∧ hs' = [] := by
  refine Spec.enter Tryz.func17 rfl Tryz.ntmps17 rfl fun B => ?_
  repeat' (first | refine soA ?_ | refine sgA ?_ | refine sxA ?_ | refine sbA ?_ | refine fun (Q : Post) hQ => ?_ | refine fun (nb : Nat) => (?_ : WL _ _ _ _ _ _ _ _ _) | (refine WL.guard rfl rfl rfl (fun h => ?_) (fun h => ?_) <;> (try dsimp only at h)))
  ((refine seE ?_); refine ⟨[], Keep.nil, ?_⟩)
  exact ⟨rfl, rfl⟩
end Go.Proofs.YtflgnpidelkkpaaGreat
namespace Go.Proofs.YtflgnpidelkkpaaGreat
set_option maxRecDepth 8000
set_option maxHeartbeats 1000000
set_option linter.unusedVariables false
set_option linter.unusedSimpArgs false
def itO {σ : Type} (f : σ → Option σ) : Nat → σ → σ
  | 0, s => s
  | n + 1, s => match f s with
    | none => s
    | some t => itO f n t
theorem itO_end {σ : Type} {f : σ → Option σ} {s : σ} (h : f s = none) : ∀ n, itO f n s = s
  | 0 => rfl
  | n + 1 => by rw [itO, h]
theorem itO_stable {σ : Type} {f : σ → Option σ} {μ : σ → Nat} {I : σ → Prop} (h : ∀ s t, I s → f s = some t → I t ∧ μ t < μ s) : ∀ n m s, I s → μ s ≤ n → μ s ≤ m → itO f n s = itO f m s
  | 0, m, s, hI, h1, h2 => by
    have hn : f s = none := by
      cases e : f s with
      | none => rfl
      | some t => have := (h s t hI e).2; omega
    rw [itO_end hn, itO_end hn]
  | n + 1, 0, s, hI, h1, h2 => by
    have hn : f s = none := by
      cases e : f s with
      | none => rfl
      | some t => have := (h s t hI e).2; omega
    rw [itO_end hn, itO_end hn]
  | n + 1, m + 1, s, hI, h1, h2 => by
    cases e : f s with
    | none => rw [itO_end e, itO_end e]
    | some t =>
      have ht := h s t hI e
      rw [itO, itO, e]
      exact itO_stable h n m t ht.1 (by omega) (by omega)
theorem itO_next {σ : Type} {f : σ → Option σ} {μ : σ → Nat} {I : σ → Prop} (h : ∀ s t, I s → f s = some t → I t ∧ μ t < μ s) {s t : σ} (hI : I s) (e : f s = some t) : itO f (μ s) s = itO f (μ t) t := by
  have ht := h s t hI e
  cases hn : μ s with
  | zero => omega
  | succ n =>
    rw [itO, e]
    exact itO_stable h n (μ t) t ht.1 (by omega) (Nat.le_refl _)
theorem itO_inv {σ : Type} {f : σ → Option σ} {J : σ → Prop} (h : ∀ s t, J s → f s = some t → J t) : ∀ n s, J s → J (itO f n s)
  | 0, s, hJ => hJ
  | n + 1, s, hJ => by
    rw [itO]
    cases e : f s with
    | none => exact hJ
    | some t => exact itO_inv h n t (h s t hJ e)
def firstD : List TimerV → Option TimerV
  | [] => none
  | x :: t => match firstD t with
    | none => some x
    | some y => if ahead (toHT y) (toHT x) = true then some y else some x
theorem ahead_nn {a b c : HI} (h : ahead a b = false) (k : ahead b c = false) : ahead a c = false := by rw [ahead_false] at *; omega
theorem firstD_none : ∀ {l : List TimerV}, firstD l = none → l = []
  | [], _ => rfl
  | x :: t, h => by
    rw [firstD] at h
    split at h
    · cases h
    · split at h <;> cases h
theorem firstD_ok : ∀ {l : List TimerV} {y : TimerV}, firstD l = some y → FirstT l y
  | x :: t, y, h => by
    rw [firstD] at h
    split at h
    · next e =>
      cases h
      have := firstD_none e; subst this
      exact ⟨.head _, fun z hz => by rw [List.mem_singleton] at hz; subst hz; exact ahead_irr _⟩
    · next z e =>
      have hz := firstD_ok e
      split at h
      · next ha =>
        cases h
        exact ⟨.tail _ hz.1, fun u hu => by
          rcases List.mem_cons.1 hu with rfl | hu
          · exact ahead_asym ha
          · exact hz.2 u hu⟩
      · next ha =>
        cases h
        have ha : ahead (toHT z) (toHT x) = false := by simpa using ha
        exact ⟨.head _, fun u hu => by
          rcases List.mem_cons.1 hu with rfl | hu
          · exact ahead_irr _
          · exact ahead_nn (hz.2 u hu) ha⟩
theorem firstD_of {l : List TimerV} {x : TimerV} (nd : (l.map (·.id)).Nodup) (h : FirstT l x) : firstD l = some x := by
  cases e : firstD l with
  | none => rw [firstD_none e] at h; cases h.1
  | some y => rw [FirstT.uniq nd h (firstD_ok e)]
def dueD (l : List TimerV) (now : Int) : Option TimerV := match firstD l with
  | none => none
  | some x => if x.mom ≤ now then some x else none
theorem dueD_some {l : List TimerV} {x : TimerV} {now : Int} (nd : (l.map (·.id)).Nodup) (h : FirstT l x) (hx : x.mom ≤ now) : dueD l now = some x := by
  unfold dueD; rw [firstD_of nd h]; dsimp only; rw [if_pos hx]
theorem dueD_no {l : List TimerV} {now : Int} (h : ∀ x ∈ l, now < x.mom) : dueD l now = none := by
  unfold dueD
  split
  · rfl
  · next x e => rw [if_neg (by have := h x (firstD_ok e).1; omega)]
theorem dueD_in {l : List TimerV} {x : TimerV} {now : Int} (h : dueD l now = some x) : FirstT l x ∧ x.mom ≤ now := by
  unfold dueD at h
  split at h
  · cases h
  · next y e =>
    split at h
    · cases h; exact ⟨firstD_ok e, by assumption⟩
    · cases h
theorem offT_lt {l : List TimerV} {x : TimerV} (h : x ∈ l) : (offT x.id l).length < l.length := by
  unfold offT
  exact List.length_filter_lt_length_iff_exists.2 ⟨x, h, by simp⟩
def taskD (s : Kn) (n : Int) : TT := (s.tasks[n.toNat]?).getD ⟨0, 0, [], []⟩
def newJ (s : Kn) (x : TimerV) : JobV := jobNewV x.id (taskD s x.id) x.mom x.every
def relK (s : Kn) (x : TimerV) : Kn :=
  { s with latch := offT x.id s.latch, jobs := putK s.jobs (newJ s x), next := s.next.set x.id.toNat (newJ s x).deadline, used := s.used.set x.id.toNat (newJ s x).left, events := s.events ++ [⟨1, x.id, x.mom, (newJ s x).deadline⟩] }
def relF (s : Kn) : Option Kn := (dueD s.latch s.now).map (relK s)
def releaseK (s : Kn) : Kn := itO relF s.latch.length s
theorem relF_some {s t : Kn} (h : relF s = some t) : ∃ x, x ∈ s.latch ∧ x.mom ≤ s.now ∧ t = relK s x := by
  unfold relF at h
  cases e : dueD s.latch s.now with
  | none => rw [e] at h; cases h
  | some x =>
    rw [e] at h
    injection h with h
    have := dueD_in e
    exact ⟨x, this.1.1, this.2, h.symm⟩
theorem relF_less (s t : Kn) (_ : True) (h : relF s = some t) : True ∧ t.latch.length < s.latch.length := by
  obtain ⟨x, hx, _, rfl⟩ := relF_some h
  exact ⟨trivial, offT_lt hx⟩
theorem release_next {s : Kn} {x : TimerV} (h : dueD s.latch s.now = some x) : releaseK s = releaseK (relK s x) :=
  itO_next (μ := fun s : Kn => s.latch.length) relF_less trivial (by unfold relF; rw [h]; rfl)
theorem release_end {s : Kn} (h : dueD s.latch s.now = none) : releaseK s = s := itO_end (by unfold relF; rw [h]; rfl) _
def qT (now : Int) (l : List TimerV) : Nat := (l.map fun x => (now + 1 - x.mom).toNat).sum
theorem qT_app (now : Int) (l l' : List TimerV) : qT now (l ++ l') = qT now l + qT now l' := by unfold qT; rw [List.map_append, List.sum_append]
theorem qT_one (now : Int) (x : TimerV) : qT now [x] = (now + 1 - x.mom).toNat := by unfold qT; simp
theorem qT_off (now : Int) (id : Int) (l : List TimerV) : qT now (offT id l) ≤ qT now l := by
  induction l with
  | nil => exact Nat.le_refl _
  | cons x t ih =>
    have e : qT now (x :: t) = (now + 1 - x.mom).toNat + qT now t := by unfold qT; simp
    unfold offT at ih ⊢
    rw [List.filter_cons]
    split
    · have e2 : qT now (x :: t.filter fun x => x.id != id) = (now + 1 - x.mom).toNat + qT now (t.filter fun x => x.id != id) := by unfold qT; simp
      omega
    · omega
theorem qT_offx {now : Int} {x : TimerV} {l : List TimerV} (h : x ∈ l) : qT now (offT x.id l) + (now + 1 - x.mom).toNat ≤ qT now l := by
  induction l with
  | nil => cases h
  | cons y t ih =>
    have e : qT now (y :: t) = (now + 1 - y.mom).toNat + qT now t := by unfold qT; simp
    rcases List.mem_cons.1 h with rfl | h
    · have h1 : offT x.id (x :: t) = offT x.id t := by unfold offT; rw [List.filter_cons_of_neg (by simp)]
      have := qT_off now x.id t
      rw [h1]; omega
    · have h3 := ih h
      by_cases h4 : y.id = x.id
      · have h1 : offT x.id (y :: t) = offT x.id t := by unfold offT; rw [List.filter_cons_of_neg (by simp [h4])]
        rw [h1]; omega
      · have h1 : offT x.id (y :: t) = y :: offT x.id t := by unfold offT; rw [List.filter_cons_of_pos (by simp [h4])]
        have e2 : qT now (y :: offT x.id t) = (now + 1 - y.mom).toNat + qT now (offT x.id t) := by unfold qT; simp
        rw [h1]; omega
theorem qT_next {now : Int} {x : TimerV} {l : List TimerV} (h : x ∈ l) (hm : x.mom ≤ now) (hn : now < 1099511627776) : qT now (nextT x l) < qT now l := by
  have h1 := qT_offx (now := now) h
  unfold nextT
  split
  · next he =>
    rw [qT_app, qT_one]
    have : x.mom < laterV x.mom x.every := by unfold laterV; split <;> omega
    show _ + (now + 1 - laterV x.mom x.every).toNat < _
    omega
  · omega
theorem qT_later {now d : Int} (hd : 0 ≤ d) (l : List TimerV) : (qT (now + d) l : Int) ≤ qT now l + l.length * d := by
  induction l with
  | nil => simp [qT]
  | cons x t ih =>
    have e : ∀ n, qT n (x :: t) = (n + 1 - x.mom).toNat + qT n t := fun n => by unfold qT; simp
    rw [e, e, List.length_cons]
    have : ((t.length + 1 : Nat) : Int) * d = t.length * d + d := by rw [Int.natCast_add, Int.add_mul]; omega
    rw [this]; omega
def expK (s : Kn) (x : TimerV) : Kn := { s with timers := nextT x s.timers, events := s.events ++ [⟨4, x.id, s.now, x.mom⟩] }
def expF (s : Kn) : Option Kn := (dueD s.timers s.now).map (expK s)
def expireK (s : Kn) : Kn := itO expF (qT s.now s.timers) s
theorem expF_some {s t : Kn} (h : expF s = some t) : ∃ x, x ∈ s.timers ∧ x.mom ≤ s.now ∧ t = expK s x := by
  unfold expF at h
  cases e : dueD s.timers s.now with
  | none => rw [e] at h; cases h
  | some x =>
    rw [e] at h
    injection h with h
    have := dueD_in e
    exact ⟨x, this.1.1, this.2, h.symm⟩
theorem expF_less (s t : Kn) (hn : s.now < 1099511627776) (h : expF s = some t) : t.now < 1099511627776 ∧ qT t.now t.timers < qT s.now s.timers := by
  obtain ⟨x, hx, hm, rfl⟩ := expF_some h
  exact ⟨hn, qT_next hx hm hn⟩
theorem expire_next {s : Kn} {x : TimerV} (hn : s.now < 1099511627776) (h : dueD s.timers s.now = some x) : expireK s = expireK (expK s x) :=
  itO_next (μ := fun s : Kn => qT s.now s.timers) (I := fun s => s.now < 1099511627776) expF_less hn (by unfold expF; rw [h]; rfl)
theorem expire_end {s : Kn} (h : dueD s.timers s.now = none) : expireK s = s := itO_end (by unfold expF; rw [h]; rfl) _
def awayF (s : Kn) (d : Nat) : Kn := match s.devs[d]?, s.p.devices[d]? with
  | some x, some o => if devAwayB o x s.now (untilV s.tasks s.next s.jobs d s.now) = true then { s with spent := s.spent.set d (w64 (s.spent.getD d 0 + devEnergyV o x s.now)), devs := s.devs.set d ⟨s.now, untilV s.tasks s.next s.jobs d s.now⟩ } else s
  | _, _ => s
def awayN (s : Kn) (n : Nat) : Kn := (List.range n).foldl awayF s
def awayK (s : Kn) : Kn := awayN s s.devs.length
def boundaryK (s : Kn) : Kn := awayK (expireK (releaseK s))
structure SameBut (s t : Kn) : Prop where
  p : t.p = s.p
  now : t.now = s.now
  level : t.level = s.level
  policy : t.policy = s.policy
  naps : t.naps = s.naps
  tasks : t.tasks = s.tasks
  next : t.next = s.next
  used : t.used = s.used
  jobs : t.jobs = s.jobs
  stack : t.stack = s.stack
  ended : t.ended = s.ended
  held : t.held = s.held
  latch : t.latch = s.latch
  timers : t.timers = s.timers
  asleep : t.asleep = s.asleep
  state : t.state = s.state
  wake : t.wake = s.wake
  trace : t.trace = s.trace
  meter : t.meter = s.meter
  events : t.events = s.events
  dl : t.devs.length = s.devs.length
  sl : t.spent.length = s.spent.length
theorem SameBut.refl (s : Kn) : SameBut s s := ⟨rfl, rfl, rfl, rfl, rfl, rfl, rfl, rfl, rfl, rfl, rfl, rfl, rfl, rfl, rfl, rfl, rfl, rfl, rfl, rfl, rfl, rfl⟩
theorem awayF_same {s t : Kn} (h : SameBut s t) (d : Nat) : SameBut s (awayF t d) := by
  unfold awayF
  split
  · split
    · exact { h with dl := by rw [List.length_set]; exact h.dl, sl := by rw [List.length_set]; exact h.sl }
    · exact h
  · exact h
theorem awayN_succ (s : Kn) (n : Nat) : awayN s (n + 1) = awayF (awayN s n) n := by unfold awayN; rw [List.range_succ, List.foldl_append]; rfl
theorem awayN_same (s : Kn) : ∀ n, SameBut s (awayN s n)
  | 0 => SameBut.refl s
  | n + 1 => by rw [awayN_succ]; exact awayF_same (awayN_same s n) n
theorem awayN_at (s : Kn) (d : Nat) : ∀ n, n ≤ d → (awayN s n).devs[d]? = s.devs[d]? ∧ (awayN s n).spent[d]? = s.spent[d]?
  | 0, _ => ⟨rfl, rfl⟩
  | n + 1, h => by
    have ih := awayN_at s d n (by omega)
    rw [awayN_succ]
    unfold awayF
    split
    · split
      · rw [← ih.1, ← ih.2]
        exact ⟨List.getElem?_set_ne (by omega), List.getElem?_set_ne (by omega)⟩
      · exact ih
    · exact ih
theorem awayF_no {s t : Kn} (h : SameBut s t) {d : Nat} {x : DevV} {o : DeviceV} (hx : t.devs[d]? = some x) (ho : s.p.devices[d]? = some o) (hb : devAwayB o x s.now (untilV s.tasks s.next s.jobs d s.now) = false) : awayF t d = t := by
  unfold awayF
  rw [hx, h.p, ho, h.now, h.tasks, h.next, h.jobs]
  dsimp only
  rw [if_neg (by rw [hb]; decide)]
theorem awayF_yes {s t : Kn} (h : SameBut s t) {d : Nat} {x : DevV} {o : DeviceV} (hx : t.devs[d]? = some x) (ho : s.p.devices[d]? = some o) (hb : devAwayB o x s.now (untilV s.tasks s.next s.jobs d s.now) = true) :
    awayF t d = { t with spent := t.spent.set d (w64 (t.spent.getD d 0 + devEnergyV o x s.now)), devs := t.devs.set d ⟨s.now, untilV s.tasks s.next s.jobs d s.now⟩ } := by
  unfold awayF
  rw [hx, h.p, ho, h.now, h.tasks, h.next, h.jobs]
  dsimp only
  rw [if_pos hb]
theorem KOk.same {s t : Kn} (w : KOk s) (h : SameBut s t) : KOk t := by
  obtain ⟨h1, h2, h3, h4, h5, h6, h7, h8, h9, h10, h11, h12, h13, h14, h15, h16, h17, h18, h19, h20, h21, h22⟩ := h
  cases t
  dsimp only at *
  subst h1 h2 h3 h4 h5 h6 h7 h8 h9 h10 h11 h12 h13 h14 h15 h16 h17 h18 h19 h20
  exact { w with nd := h21.trans w.nd, ne := h22.trans w.ne }
theorem relK_ok {s : Kn} {x : TimerV} (w : KOk s) (hx : x ∈ s.latch) : KOk (relK s x) := { w with
  nn := by show (List.set _ _ _).length = 6; rw [List.length_set]; exact w.nn
  nu := by show (List.set _ _ _).length = 6; rw [List.length_set]; exact w.nu
  jin := fun j hj => by
    rcases putK_mem.1 hj with rfl | ⟨h, _⟩
    · exact w.lin x hx
    · exact w.jin j h
  jord := putK_ord w.jord
  jnd := putK_nd w.jnd
  sst := fun y hy => by
    obtain ⟨j', h1, h2⟩ := w.sst y hy
    by_cases e : y = x.id
    · exact ⟨newJ s x, putK_mem.2 (.inl rfl), e.symm⟩
    · exact ⟨j', putK_mem.2 (.inr ⟨h1, fun e2 => e (h2 ▸ e2)⟩), h2⟩
  stq := by
    have h1 := unst_off_le x.id s.jobs
    have h2 : unst (putK s.jobs (newJ s x)) = unst (offJ x.id s.jobs) + 1 := by rw [unst_put]; rfl
    have h3 := w.stq
    have h4 := offT_lt hx
    show s.stack.length + unst (putK s.jobs (newJ s x)) + (offT x.id s.latch).length ≤ _
    omega
  lin := fun y hy => w.lin y (List.mem_filter.1 hy).1
  lnd := (List.filter_sublist.map _).nodup w.lnd }
theorem nextT_ids {x : TimerV} {l : List TimerV} (hx : x ∈ l) (nd : (l.map (·.id)).Nodup) : ((nextT x l).map (·.id)).Nodup ∧ ∀ y ∈ nextT x l, y.id = x.id ∨ y ∈ l := by
  have hoff : ((offT x.id l).map (·.id)).Nodup := (List.filter_sublist.map _).nodup nd
  unfold nextT
  split
  · refine ⟨?_, fun y hy => ?_⟩
    · rw [List.map_append, List.map_singleton, List.nodup_append]
      refine ⟨hoff, by simp, fun a ha b hb e => ?_⟩
      rw [List.mem_singleton] at hb
      obtain ⟨z, hz, rfl⟩ := List.mem_map.1 ha
      have := (List.mem_filter.1 hz).2
      simp only [bne_iff_ne, ne_eq] at this
      exact this (e.trans hb)
    · rcases List.mem_append.1 hy with hy | hy
      · exact .inr (List.mem_filter.1 hy).1
      · rw [List.mem_singleton] at hy; subst hy; exact .inl rfl
  · exact ⟨hoff, fun y hy => .inr (List.mem_filter.1 hy).1⟩
theorem expK_ok {s : Kn} {x : TimerV} (w : KOk s) (hx : x ∈ s.timers) : KOk (expK s x) := { w with
  tin := fun y hy => by
    rcases (nextT_ids hx w.tnd).2 y hy with e | h
    · rw [e]; exact w.tin x hx
    · exact w.tin y h
  tnd := (nextT_ids hx w.tnd).1 }
theorem releaseK_inv {J : Kn → Prop} (h : ∀ s x, J s → x ∈ s.latch → x.mom ≤ s.now → J (relK s x)) {s : Kn} (hs : J s) : J (releaseK s) :=
  itO_inv (fun s t hJ e => by obtain ⟨x, hx, hm, rfl⟩ := relF_some e; exact h s x hJ hx hm) _ s hs
theorem expireK_inv {J : Kn → Prop} (h : ∀ s x, J s → x ∈ s.timers → x.mom ≤ s.now → J (expK s x)) {s : Kn} (hs : J s) : J (expireK s) :=
  itO_inv (fun s t hJ e => by obtain ⟨x, hx, hm, rfl⟩ := expF_some e; exact h s x hJ hx hm) _ s hs
theorem releaseK_ok {s : Kn} (w : KOk s) : KOk (releaseK s) := releaseK_inv (fun s x w hx _ => relK_ok w hx) w
theorem expireK_ok {s : Kn} (w : KOk s) : KOk (expireK s) := expireK_inv (fun s x w hx _ => expK_ok w hx) w
theorem awayK_ok {s : Kn} (w : KOk s) : KOk (awayK s) := w.same (awayN_same s _)
theorem boundaryK_ok {s : Kn} (w : KOk s) : KOk (boundaryK s) := awayK_ok (expireK_ok (releaseK_ok w))
end Go.Proofs.YtflgnpidelkkpaaGreat
