/- part 33 of the proof: contracts of the functions that the law reaches, and plain laws. -/
import Derived.Test.YtflgnpidelkkpaaGreatMq31
import Derived.Test.YtflgnpidelkkpaaGreatMq7
import Derived.Test.YtflgnpidelkkpaaGreatMq32
namespace Go.Proofs.YtflgnpidelkkpaaGreat
set_option maxRecDepth 8000
set_option maxHeartbeats 1000000
set_option linter.unusedVariables false
set_option linter.unusedSimpArgs false
def TZ : TT := ⟨0, 0, [], []⟩
def removeK (s : Kn) (n : Int) : Kn × Int :=
  if hasK s n = false then (s, 6)
  else if (s.jobs.any fun j => j.task == n) = true ∨ (s.latch.any fun x => x.id == n) = true ∨ s.held ≠ [] then (s, 8)
  else ({ s with tasks := s.tasks.set n.toNat TZ, next := s.next.set n.toNat 0, used := s.used.set n.toNat 0 }, 0)
def longK (ts : List TT) : Int := ts.foldl (fun m t => maxV m t.period) 0
def fromK (s : Kn) : Int := if s.asleep = true then maxV (maxV s.now (lastV s.jobs)) (w64 (s.wake + longK s.tasks)) else maxV s.now (lastV s.jobs)
def callF (p : PP) (now : Int) (a : List DevV × Int) (d : Int) : List DevV × Int := match a.1[d.toNat]?, p.devices[d.toNat]? with
  | some x, some o => (a.1.set d.toNat (devCallV o x now), if devStateV o (devCallV o x now) now = 1 then a.2 else maxV a.2 (devCallV o x now).until_)
  | _, _ => a
def startV (s : Kn) (l : List Int) : List DevV × Int := l.foldl (callF s.p s.now) (s.devs, fromK s)
def okD (nd : Nat) (l : List Int) (i : Nat) : Bool := decide (0 ≤ l.getD i 0) && (decide (l.getD i 0 < (nd : Int)) && (i == 0 || decide (l.getD (i - 1) 0 < l.getD i 0)))
def risB (nd : Nat) (l : List Int) : Bool := (List.range l.length).all (okD nd l)
def taskB (p : PP) (t : TT) : Bool :=
  decide (1 ≤ t.period ∧ t.period ≤ p.horizon ∧ 1 ≤ t.cycles ∧ t.cycles ≤ 4096) && (decide ((t.sec.length : Int) ≤ p.sems) && ((t.sec.all fun x => decide (0 ≤ x ∧ x ≤ t.cycles)) && risB p.devices.length t.devs))
def idxK (ts : List TT) : Nat := ts.findIdx fun t => t.period == 0
def admitK (s : Kn) (t : TT) : Kn × Int × Int :=
  if taskB s.p t = false then (s, 0, 3)
  else if s.held ≠ [] then (s, 0, 8)
  else if (thereK s.tasks).length = 6 then (s, 0, 4)
  else if ¬ loadV s.p (thereK s.tasks ++ [t]) 0 ≤ 4294967296 then (s, 0, 5)
  else ({ s with tasks := s.tasks.set (idxK s.tasks) t, next := s.next.set (idxK s.tasks) (startV s t.devs).2, used := s.used.set (idxK s.tasks) t.cycles, devs := (startV s t.devs).1 }, (idxK s.tasks : Int), 0)
open Classical in
noncomputable def giveL (l : List HeldV) (task m : Int) : Option (List HeldV) :=
  if h : ∃ r : List HeldV, ∃ i x, LastH l task i x ∧ x.sem = m ∧ r = l.take i ++ l.drop (i + 1) then some h.choose else none
theorem giveL_yes {l : List HeldV} {task m : Int} {i : Nat} {x : HeldV} (h : LastH l task i x) (hm : x.sem = m) : giveL l task m = some (l.take i ++ l.drop (i + 1)) := by
  have he : ∃ r : List HeldV, ∃ i x, LastH l task i x ∧ x.sem = m ∧ r = l.take i ++ l.drop (i + 1) := ⟨_, i, x, h, hm, rfl⟩
  unfold giveL
  rw [dif_pos he]
  obtain ⟨i', x', h1, _, h3⟩ := he.choose_spec
  rw [h3, (LastH.uniq h1 h).1]
theorem giveL_no {l : List HeldV} {task m : Int} (h : ∀ i x, LastH l task i x → x.sem ≠ m) : giveL l task m = none := by
  unfold giveL
  rw [dif_neg]
  rintro ⟨r, i, x, h1, h2, _⟩
  exact h i x h1 h2
theorem giveL_some {l r : List HeldV} {task m : Int} (h : giveL l task m = some r) : ∃ i x, LastH l task i x ∧ x.sem = m ∧ r = l.take i ++ l.drop (i + 1) := by
  unfold giveL at h
  split at h
  · next he => injection h with h; subst h; exact he.choose_spec
  · cases h
def secT (t : TT) (m : Int) : Int := t.sec.getD m.toNat 0
noncomputable def lockK (s : Kn) (m : Int) (give : Bool) : Kn × Int :=
  if s.asleep = true then (s, 9)
  else if (whoK s).2 = false ∨ (jobK s (whoK s).1).started = false then (s, 9)
  else if usesP (taskD s (whoK s).1) m = false then (s, 10)
  else if give = true then (match giveL s.held (whoK s).1 m with | some l => ({ s with held := l }, 0) | none => (s, 10))
  else if (s.held.any fun x => x.sem == m) = true then (s, 10)
  else ({ s with held := s.held ++ [⟨(whoK s).1, m, secT (taskD s (whoK s).1) m⟩] }, 0)
noncomputable def oneK (s : Kn) (x : StepV) : Kn × Int × Int :=
  if x.kind = 1 then admitK s x.task.pl
  else if x.kind = 2 then ((removeK s x.A).1, 0, (removeK s x.A).2)
  else if x.kind = 3 then ((arriveK s x.A x.B x.C).1, 0, (arriveK s x.A x.B x.C).2)
  else if x.kind = 4 then ((tickK s x.A).1, 0, (tickK s x.A).2)
  else if x.kind = 5 ∨ x.kind = 6 then ((lockK s x.A (x.kind == 6)).1, 0, (lockK s x.A (x.kind == 6)).2)
  else if x.kind = 7 then ((policyK s x.A x.B).1, 0, (policyK s x.A x.B).2)
  else if x.kind = 8 ∨ x.kind = 9 then ((timerK s x).1, 0, (timerK s x).2)
  else (s, 0, 1)
noncomputable def doK (s : Kn) (x : StepV) : Kn × Int × Int :=
  if s.p.horizon ≤ s.now then (s, 0, 11)
  else if (oneK s x).2.2 = 0 then (boundaryK (oneK s x).1, (oneK s x).2) else oneK s x
def newK (p : PP) : Kn where
  p := p
  now := 0
  level := 0
  policy := 0
  naps := false
  tasks := List.replicate 6 TZ
  next := List.replicate 6 0
  used := List.replicate 6 0
  jobs := []
  stack := []
  ended := false
  held := []
  latch := []
  timers := []
  devs := List.replicate p.devices.length ⟨0, 0⟩
  spent := List.replicate p.devices.length 0
  asleep := false
  state := 0
  wake := 0
  trace := []
  meter := ⟨0, 0, 0, 0⟩
  events := []
structure KInv (s : Kn) (c : Nat) : Prop where
  ok : KOk s
  mom : KMom s
  tr : KTr s
  e : KE s (2 * c)
  st : s.stack.length + unst s.jobs + s.latch.length ≤ c
theorem KInv.up {s : Kn} {c d : Nat} (h : KInv s c) (hc : c ≤ d) : KInv s d := { h with
  e := by have := h.e; unfold KE at *; omega
  st := Nat.le_trans h.st hc }
theorem KInv.boundary {s : Kn} {c : Nat} (h : KInv s c) : KInv (boundaryK s) c where
  ok := boundaryK_ok h.ok
  mom := boundaryK_mom h.mom
  tr := by have b := boundaryK_bnd s; unfold KTr; rw [b.trace, b.now]; exact h.tr
  e := boundaryK_e h.e h.mom
  st := Nat.le_trans (boundaryK_bnd s).stk h.st
theorem KInv.tickI {s : Kn} {c : Nat} (h : KInv s c) (n : Int) : TickI (minV (s.now + n) s.p.horizon) s := ⟨h.ok, h.mom, by unfold minV; split <;> omega⟩
theorem tick_st {e : Int} {s : Kn} {c : Nat} (hI : TickI e s) (h : s.stack.length + unst s.jobs + s.latch.length ≤ c) : (tickT s e).stack.length + unst (tickT s e).jobs + (tickT s e).latch.length ≤ c :=
  tick_inv (J := fun t => t.stack.length + unst t.jobs + t.latch.length ≤ c) hI (fun t h hI hn => by
    have v := stepK_mv hI.ok hI.mom
    have b := (boundaryK_bnd (stepK t)).stk
    have h1 := v.st
    have h2 := v.latch
    rw [h2] at b
    show (boundaryK (stepK t)).stack.length + unst (boundaryK (stepK t)).jobs + (boundaryK (stepK t)).latch.length ≤ c
    omega) h
theorem tickK_inv {s : Kn} {c : Nat} (h : KInv s c) (n : Int) : KInv (tickK s n).1 c := by
  unfold tickK
  split
  · exact h
  · have hI := h.tickI n
    exact ⟨(tick_I hI).ok, (tick_I hI).mom, tick_tr hI h.tr, tick_e hI h.e, tick_st hI h.st⟩
theorem policyK_inv {s : Kn} {c : Nat} (h : KInv s c) (a b : Int) : KInv (policyK s a b).1 c := by
  unfold policyK
  split
  · exact ⟨{ h.ok with }, { h.mom with }, h.tr, h.e, h.st⟩
  · exact h
theorem hasK_in6 {s : Kn} (w : KOk s) {n : Int} (h : hasK s n = true) : 0 ≤ n ∧ n < 6 := by
  unfold hasK at h
  simp only [Bool.and_eq_true, decide_eq_true_eq] at h
  have := w.nt
  omega
theorem removeK_inv {s : Kn} {c : Nat} (h : KInv s c) (n : Int) : KInv (removeK s n).1 c := by
  unfold removeK
  split
  · exact h
  · split
    · exact h
    · have w := h.ok
      have hz : ∀ t ∈ s.tasks.set n.toNat TZ, t ∈ s.tasks ∨ t = TZ := fun t ht => List.mem_or_eq_of_mem_set ht
      refine ⟨{ w with
        nt := by rw [← w.nt]; exact List.length_set
        nn := by rw [← w.nn]; exact List.length_set
        nu := by rw [← w.nu]; exact List.length_set
        per := fun t ht => by
          rcases hz t ht with ht | rfl
          · exact w.per t ht
          · exact Int.le_refl _
        secl := fun t ht => by
          rcases hz t ht with ht | rfl
          · exact w.secl t ht
          · exact ⟨Nat.zero_le _, Nat.zero_le _⟩
        devr := fun t ht => by
          rcases hz t ht with ht | rfl
          · exact w.devr t ht
          · intro d hd; cases hd
        secb := fun t ht => by
          rcases hz t ht with ht | rfl
          · exact w.secb t ht
          · intro d hd; cases hd }, { h.mom with }, h.tr, h.e, h.st⟩
theorem arriveK_inv {s : Kn} {c : Nat} (h : KInv s c) (n a b : Int) (hc : c < 4398046511104) : KInv (arriveK s n a b).1 (c + 1) := by
  have hu := h.up (Nat.le_succ c)
  unfold arriveK
  split
  · exact hu
  · next h1 =>
    have hh : hasK s n = true := by simpa using h1
    split
    · exact hu
    · next h2 =>
      split
      · exact hu
      · next h3 =>
        split
        · exact hu
        · have w := h.ok
          have hn := hasK_in6 w hh
          have hm := h.mom.big
          have hst := h.st
          have h2 : (0 ≤ a ∧ a ≤ 16384) := by
            have : withinB a 0 16384 = true := by
              cases e : withinB a 0 16384 with
              | true => rfl
              | false => rw [e] at h2; exact absurd rfl h2
            unfold withinB at this
            simpa using this
          have hw : w64 (s.now + a) = s.now + a := w64_in (by omega)
          have h3 : (s.latch.any fun x => x.id == n) = false := by simpa using h3
          have hni : n ∉ s.latch.map (·.id) := fun hx => by
            obtain ⟨x, hx, e⟩ := List.mem_map.1 hx
            have := List.any_eq_false.1 h3 x hx
            simp [e] at this
          refine ⟨{ w with
            nn := by rw [← w.nn]; exact List.length_set
            stq := by
              show s.stack.length + unst s.jobs + (s.latch ++ [_]).length ≤ _
              rw [List.length_append, List.length_singleton]; omega
            lin := fun x hx => by
              rcases List.mem_append.1 hx with hx | hx
              · exact w.lin x hx
              · rw [List.mem_singleton] at hx; subst hx; exact hn
            lnd := by
              show (List.map TimerV.id (s.latch ++ [_])).Nodup
              rw [List.map_append, List.map_singleton]
              exact nodup_snoc w.lnd hni }, { h.mom with
            lat := fun x hx => by
              rcases List.mem_append.1 hx with hx | hx
              · exact h.mom.lat x hx
              · rw [List.mem_singleton] at hx; subst hx
                dsimp only
                omega }, h.tr, ?_, ?_⟩
          · have he := h.e
            unfold KE at *
            show (s.events.length : Int) + 2 * (s.latch ++ [_]).length + s.jobs.length + qT s.now s.timers ≤ _ + 4 * s.now
            rw [List.length_append, List.length_singleton]; omega
          · show s.stack.length + unst s.jobs + (s.latch ++ [_]).length ≤ _
            rw [List.length_append, List.length_singleton]; omega
theorem withinB_iff {n a b : Int} : withinB n a b = true ↔ a ≤ n ∧ n ≤ b := by unfold withinB; simp
theorem timerK_inv {s : Kn} {c : Nat} (h : KInv s c) (x : StepV) : KInv (timerK s x).1 (c + 1) := by
  have hu := h.up (Nat.le_succ c)
  have w := h.ok
  have hoff : ((offT x.A s.timers).map (·.id)).Nodup := (List.filter_sublist.map _).nodup w.tnd
  have hq := qT_off s.now x.A s.timers
  unfold timerK
  split
  · refine ⟨{ w with
      tin := fun y hy => w.tin y (List.mem_filter.1 hy).1
      tnd := hoff }, { h.mom with tim := fun y hy => h.mom.tim y (List.mem_filter.1 hy).1 }, h.tr, ?_, hu.st⟩
    have he := hu.e
    unfold KE at *
    show (s.events.length : Int) + 2 * s.latch.length + s.jobs.length + qT s.now (offT x.A s.timers) ≤ _ + 4 * s.now
    omega
  · split
    · exact hu
    · next h2 =>
      have h2 : (withinB x.A 0 3 && withinB x.B 0 16384 && withinB x.C 0 16384) = true := by
        cases e : (withinB x.A 0 3 && withinB x.B 0 16384 && withinB x.C 0 16384) with
        | true => rfl
        | false => exact absurd e h2
      rw [Bool.and_eq_true, Bool.and_eq_true, withinB_iff, withinB_iff, withinB_iff] at h2
      have hm := h.mom.big
      have hw : w64 (s.now + x.B) = s.now + x.B := w64_in (by omega)
      have hcap : capV (s.now + x.B) = s.now + x.B := by unfold capV; split <;> omega
      rw [hw, hcap]
      refine ⟨{ w with
        tin := fun y hy => by
          rcases List.mem_append.1 hy with hy | hy
          · exact w.tin y (List.mem_filter.1 hy).1
          · rw [List.mem_singleton] at hy; subst hy; dsimp only; omega
        tnd := by
          show (List.map TimerV.id (offT x.A s.timers ++ [_])).Nodup
          rw [List.map_append, List.map_singleton]
          refine nodup_snoc hoff fun hx => ?_
          obtain ⟨y, hy, e⟩ := List.mem_map.1 hx
          have := (List.mem_filter.1 hy).2
          simp [e] at this }, { h.mom with
        tim := fun y hy => by
          rcases List.mem_append.1 hy with hy | hy
          · exact h.mom.tim y (List.mem_filter.1 hy).1
          · rw [List.mem_singleton] at hy; subst hy; dsimp only; omega }, h.tr, ?_, hu.st⟩
      have he := h.e
      unfold KE at *
      show (s.events.length : Int) + 2 * s.latch.length + s.jobs.length + qT s.now (offT x.A s.timers ++ [_]) ≤ _ + 4 * s.now
      rw [qT_app, qT_one]
      dsimp only
      omega
theorem lockK_inv {s : Kn} {c : Nat} (h : KInv s c) (m : Int) (g : Bool) : KInv (lockK s m g).1 c := by
  have w := h.ok
  unfold lockK
  split
  · exact h
  · split
    · exact h
    · next hj =>
      split
      · exact h
      · next hu =>
        have hj2 : (whoK s).2 = true := by
          cases e : (whoK s).2 with
          | true => rfl
          | false => exact absurd (Or.inl e) hj
        have hj := jobK_of (whoK_job w hj2)
        have hin := w.jin _ hj.1
        rw [hj.2] at hin
        split
        · split
          · next l hl =>
            obtain ⟨i, x, _, _, rfl⟩ := giveL_some hl
            have hsub : (s.held.take i ++ s.held.drop (i + 1)).Sublist s.held := by
              have h1 : (s.held.drop (i + 1)).Sublist (s.held.drop i) := by
                rw [← List.drop_drop]; exact List.drop_sublist _ _
              have := (List.Sublist.refl (s.held.take i)).append h1
              rwa [List.take_append_drop] at this
            exact ⟨{ w with
              hin := fun y hy => w.hin y (hsub.subset hy)
              hbd := fun y hy => w.hbd y (hsub.subset hy)
              hsem := fun y hy => w.hsem y (hsub.subset hy)
              hnd := (hsub.map _).nodup w.hnd }, { h.mom with }, h.tr, h.e, h.st⟩
          · exact h
        · split
          · exact h
          · next ha =>
            have ha : (s.held.any fun x => x.sem == m) = false := by simpa using ha
            have hni : m ∉ s.held.map (·.sem) := fun hx => by
              obtain ⟨x, hx, e⟩ := List.mem_map.1 hx
              have := List.any_eq_false.1 ha x hx
              simp [e] at this
            have hu : usesP (taskD s (whoK s).1) m = true := by simpa using hu
            have hnt := w.nt
            have hidx : (whoK s).1.toNat < s.tasks.length := by omega
            have htm : taskD s (whoK s).1 ∈ s.tasks := by
              unfold taskD
              rw [List.getElem?_eq_getElem hidx]
              exact List.getElem_mem hidx
            have hu : 0 ≤ m ∧ m < ((taskD s (whoK s).1).sec.length : Nat) := by
              unfold usesP at hu
              simp only [Bool.and_eq_true, decide_eq_true_eq] at hu
              exact ⟨hu.1, hu.2.1⟩
            have hs3 := (w.secl _ htm).1
            have hv : 0 ≤ secT (taskD s (whoK s).1) m ∧ secT (taskD s (whoK s).1) m ≤ 4096 := by
              unfold secT
              have hl : m.toNat < (taskD s (whoK s).1).sec.length := by omega
              rw [List.getD_eq_getElem?_getD, List.getElem?_eq_getElem hl]
              exact w.secb _ htm _ (List.getElem_mem hl)
            exact ⟨{ w with
              hin := fun y hy => by
                rcases List.mem_append.1 hy with hy | hy
                · exact w.hin y hy
                · rw [List.mem_singleton] at hy; subst hy; exact hin
              hbd := fun y hy => by
                rcases List.mem_append.1 hy with hy | hy
                · exact w.hbd y hy
                · rw [List.mem_singleton] at hy; subst hy; dsimp only; omega
              hsem := fun y hy => by
                rcases List.mem_append.1 hy with hy | hy
                · exact w.hsem y hy
                · rw [List.mem_singleton] at hy; subst hy; dsimp only; omega
              hnd := by
                show (List.map HeldV.sem (s.held ++ [_])).Nodup
                rw [List.map_append, List.map_singleton]
                exact nodup_snoc w.hnd hni }, { h.mom with }, h.tr, h.e, h.st⟩
theorem risB_at {nd : Nat} {l : List Int} (h : risB nd l = true) {i : Nat} (hi : i < l.length) : 0 ≤ l.getD i 0 ∧ l.getD i 0 < (nd : Int) ∧ (i = 0 ∨ l.getD (i - 1) 0 < l.getD i 0) := by
  unfold risB at h
  have := List.all_eq_true.1 h i (List.mem_range.2 hi)
  unfold okD at this
  simpa using this
theorem risB_in {nd : Nat} {l : List Int} (h : risB nd l = true) : ∀ d ∈ l, 0 ≤ d ∧ d < (nd : Int) := fun d hd => by
  obtain ⟨i, hi, rfl⟩ := List.mem_iff_getElem.1 hd
  have := risB_at h hi
  rw [List.getD_eq_getElem?_getD, List.getElem?_eq_getElem hi, Option.getD_some] at this
  exact ⟨this.1, this.2.1⟩
theorem risB_ge {nd : Nat} {l : List Int} (h : risB nd l = true) : ∀ i : Nat, i < l.length → (i : Int) ≤ l.getD i 0
  | 0, hi => (risB_at h hi).1
  | i + 1, hi => by
    have h1 := risB_ge h i (by omega)
    have h2 := (risB_at h hi).2.2
    simp only [Nat.add_sub_cancel] at h2
    omega
theorem risB_len {nd : Nat} {l : List Int} (h : risB nd l = true) : l.length ≤ nd := by
  cases hl : l.length with
  | zero => exact Nat.zero_le _
  | succ n =>
    have h1 := risB_ge h n (by omega)
    have h2 := (risB_at h (i := n) (by omega)).2.1
    omega
theorem taskB_spec {p : PP} {t : TT} (h : taskB p t = true) : (1 ≤ t.period ∧ t.period ≤ p.horizon ∧ 1 ≤ t.cycles ∧ t.cycles ≤ 4096) ∧ (t.sec.length : Int) ≤ p.sems ∧ (∀ x ∈ t.sec, 0 ≤ x ∧ x ≤ t.cycles) ∧ risB p.devices.length t.devs = true := by
  unfold taskB at h
  simp only [Bool.and_eq_true, decide_eq_true_eq, List.all_eq_true] at h
  exact ⟨h.1, h.2.1, h.2.2.1, h.2.2.2⟩
theorem startV_len (s : Kn) (l : List Int) : (startV s l).1.length = s.devs.length := by
  unfold startV
  suffices h : ∀ (l : List Int) (a : List DevV × Int), (l.foldl (callF s.p s.now) a).1.length = a.1.length by exact h l _
  intro l
  induction l with
  | nil => intro a; rfl
  | cons d t ih =>
    intro a
    rw [List.foldl_cons, ih]
    unfold callF
    split
    · exact List.length_set
    · rfl
def DevsR (p : PP) (now : Int) (l : List DevV) : Prop := (∀ (i : Nat) o x, p.devices[i]? = some o → l[i]? = some x → DevR o x now) ∧ ∀ x ∈ l, x.start ≤ now
theorem devCall_R {o : DeviceV} {x : DevV} {now : Int} (h : DevR o x now) (hs : x.start ≤ now) (hn : now ≤ 16640) : DevR o (devCallV o x now) now ∧ (devCallV o x now).start ≤ now := by
  unfold devCallV
  split
  · have h1 := h.down; have h2 := h.up; have h3 := h.even; have h4 := h.start; have h5 := h.now
    have hb : x.start + o.down + o.up ≤ maxV (maxV (x.start + o.even) (now + o.up)) (x.start + o.down + o.up) ∧ maxV (maxV (x.start + o.even) (now + o.up)) (x.start + o.down + o.up) ≤ 1099511627776 := by
      unfold maxV; repeat' split <;> omega
    exact ⟨{ h with until_ := by dsimp only; omega, long := .inr (by dsimp only; omega) }, hs⟩
  · exact ⟨h, hs⟩
theorem callF_R {p : PP} {now : Int} {a : List DevV × Int} (h : DevsR p now a.1) (hn : now ≤ 16640) (d : Int) : DevsR p now (callF p now a d).1 := by
  unfold callF
  split
  · next x o hx ho =>
    have hc := devCall_R (h.1 _ _ _ ho hx) (h.2 x (List.mem_of_getElem? hx)) hn
    refine ⟨fun i o' x' ho' hx' => ?_, fun y hy => ?_⟩
    · by_cases e : d.toNat = i
      · subst e
        have hx' : (a.1.set d.toNat (devCallV o x now))[d.toNat]? = some x' := hx'
        rw [List.getElem?_set_self (List.getElem?_eq_some_iff.1 hx).1] at hx'
        cases hx'
        rw [ho] at ho'; cases ho'
        exact hc.1
      · have hx' : (a.1.set d.toNat (devCallV o x now))[i]? = some x' := hx'
        rw [List.getElem?_set_ne e] at hx'
        exact h.1 i o' x' ho' hx'
    · rcases List.mem_or_eq_of_mem_set hy with hy | rfl
      · exact h.2 y hy
      · exact hc.2
  · exact h
theorem foldl_R {p : PP} {now : Int} (hn : now ≤ 16640) : ∀ (l : List Int) (a : List DevV × Int), DevsR p now a.1 → DevsR p now (l.foldl (callF p now) a).1
  | [], a, h => h
  | d :: t, a, h => foldl_R hn t _ (callF_R h hn d)
theorem KMom.devsR {s : Kn} (m : KMom s) : DevsR s.p s.now s.devs := ⟨m.dev, m.dst⟩
theorem startV_R {s : Kn} (m : KMom s) (l : List Int) : DevsR s.p s.now (startV s l).1 := foldl_R m.big.2 l _ m.devsR
theorem admitK_inv {s : Kn} {c : Nat} (h : KInv s c) (t : TT) : KInv (admitK s t).1 c := by
  have w := h.ok
  unfold admitK
  split
  · exact h
  · next ht =>
    have ht := taskB_spec (by simpa using ht : taskB s.p t = true)
    split
    · exact h
    · split
      · exact h
      · split
        · exact h
        · have hz : ∀ u ∈ s.tasks.set (idxK s.tasks) t, u ∈ s.tasks ∨ u = t := fun u hu => List.mem_or_eq_of_mem_set hu
          have hR := startV_R h.mom t.devs
          refine ⟨{ w with
            nt := by rw [← w.nt]; exact List.length_set
            nn := by rw [← w.nn]; exact List.length_set
            nu := by rw [← w.nu]; exact List.length_set
            nd := by rw [← w.nd]; exact startV_len s t.devs
            per := fun u hu => by
              rcases hz u hu with hu | rfl
              · exact w.per u hu
              · have := ht.1; omega
            secl := fun u hu => by
              rcases hz u hu with hu | rfl
              · exact w.secl u hu
              · have h1 := ht.2.1
                have h2 := w.smx
                have h3 := risB_len ht.2.2.2
                have h4 := w.dvl
                omega
            devr := fun u hu => by
              rcases hz u hu with hu | rfl
              · exact w.devr u hu
              · exact risB_in ht.2.2.2
            secb := fun u hu => by
              rcases hz u hu with hu | rfl
              · exact w.secb u hu
              · intro x hx
                have h1 := ht.2.2.1 x hx
                have h2 := ht.1
                omega }, { h.mom with dev := hR.1, dst := hR.2 }, h.tr, h.e, h.st⟩
theorem oneK_inv {s : Kn} {c : Nat} (h : KInv s c) (x : StepV) (hc : c < 4398046511104) : KInv (oneK s x).1 (c + 1) := by
  have hu : ∀ {t : Kn}, KInv t c → KInv t (c + 1) := fun h => h.up (Nat.le_succ c)
  unfold oneK
  repeat' split
  · exact hu (admitK_inv h _)
  · exact hu (removeK_inv h _)
  · exact arriveK_inv h _ _ _ hc
  · exact hu (tickK_inv h _)
  · exact hu (lockK_inv h _ _)
  · exact hu (policyK_inv h _ _)
  · exact timerK_inv h _
  · exact hu h
theorem doK_inv {s : Kn} {c : Nat} (h : KInv s c) (x : StepV) (hc : c < 4398046511104) : KInv (doK s x).1 (c + 1) := by
  unfold doK
  split
  · exact h.up (Nat.le_succ c)
  · split
    · exact (oneK_inv h x hc).boundary
    · exact oneK_inv h x hc
end Go.Proofs.YtflgnpidelkkpaaGreat
namespace Go.Proofs.YtflgnpidelkkpaaGreat
set_option maxRecDepth 8000
set_option maxHeartbeats 1000000
set_option linter.unusedVariables false
set_option linter.unusedSimpArgs false
structure TkI (b : Nat) (s : Kn) (c : Int) (e : Int) (x : BdS) : Prop where
  ker : KerC b x.t x.hs
  I : TickI e x.t
  tr : TrI e s x.t
  ev : KE x.t c
  same : tickT x.t e = tickT s e
attribute [local irreducible] W X WL WA WB WG WO Rn Own one splice Arr Spec WQ WH Qn
set_option maxHeartbeats 8000000 in
theorem tick_any (b : Nat) (s : Kn) (n : Int) (c : Nat) (F : Hp) (hs : List Hp) (ho : KerC b s hs) (h : KInv s c) (hc : c ≤ 2198000000000) : Spec Tryz.prog 95 [ptrV b, .int .i64 n] F hs fun v hs' => v = .int .i64 (tickK s n).2 ∧ KerC b (tickK s n).1 hs' := by
  refine Spec.enter Tryz.func95 rfl Tryz.ntmps95 rfl fun B => ?_
  have hm := h.mom.big
  repeat' (first | ((refine WL.ex rfl (WO.callN Tryz.func152 rfl (by kernel_rfl) rfl Takes.nil (fun G hG hh => within_any n 0 16384 G) ?_); rintro v own' ⟨rfl, rfl⟩)) | (first | refine soA ?_ | refine sgA ?_ | refine sxA ?_ | refine sbA ?_ | refine fun (Q : Post) hQ => ?_ | refine fun (nb : Nat) => (?_ : WL _ _ _ _ _ _ _ _ _) | (refine WL.guard rfl rfl rfl (fun h => ?_) (fun h => ?_) <;> (try dsimp only at h))))
  refine W.cond rfl (fun hb => ?_) (fun hb => ?_)
  · have h1 : withinB n 0 16384 = false := by simpa using hb
    have e : tickK s n = (s, 1) := by unfold tickK; rw [if_pos h1]
    repeat' (first | refine soA ?_ | refine sgA ?_ | refine sxA ?_ | refine sbA ?_ | refine fun (Q : Post) hQ => ?_ | refine fun (nb : Nat) => (?_ : WL _ _ _ _ _ _ _ _ _) | (refine WL.guard rfl rfl rfl (fun h => ?_) (fun h => ?_) <;> (try dsimp only at h)))
    (refine seE ?_)
    exact ⟨hs, (by first | exact keep_self hs | exact keep_app hs _), by rw [e], by rw [e]; exact ho⟩
  · have h1 : withinB n 0 16384 = true := by simpa using hb
    have h2 := withinB_iff.1 h1
    have hn : w64 (s.now + n) = s.now + n := w64_in (by omega)
    have e : tickK s n = (tickT s (minV (s.now + n) s.p.horizon), 0) := by unfold tickK; rw [if_neg (by rw [h1]; decide)]
    obtain ⟨a, hP, hT, hM, hN, hU, hS, hK, hL, hA, hI, hD, hE, hR, hV, hC, rfl, k⟩ := ho
    have ehz : a.p.horizon = s.p.horizon := congrArg PP.horizon k.pl
    repeat' (first | refine soA ?_ | refine sgA ?_ | refine sxA ?_ | refine sbA ?_ | refine fun (Q : Post) hQ => ?_ | refine fun (nb : Nat) => (?_ : WL _ _ _ _ _ _ _ _ _) | (refine WL.guard rfl rfl rfl (fun h => ?_) (fun h => ?_) <;> (try dsimp only at h)))
    refine dra [(0, [])] [] ?_
    refine drp 13 0 1 ?_
    refine drp 13 1 3 ?_
    refine drp 13 2 7 ?_
    refine drl 13 3 0 15 ?_
    refine drp 13 4 31 ?_
    refine drp 13 5 63 (hy := by (exact Rn.add rfl rfl (by omega))) ?_
    refine drp 13 6 127 ?_
    refine drp 13 7 255 ?_
    refine drp 13 8 511 ?_
    refine drp 13 9 1023 ?_
    refine drl 13 10 0 2047 ?_
    refine drp 13 11 4095 (hy := by (exact Rn.min rfl rfl)) ?_
    refine drp 13 12 8191 ?_
    refine drz ?_
    have hI0 := h.tickI n
    have e0 : (if s.p.horizon < s.now + n then s.p.horizon else s.now + n) = minV (s.now + n) s.p.horizon := rfl
    rw [ehz, e0]
    generalize hE0 : minV (s.now + n) s.p.horizon = E0 at e hI0 e0 ⊢
    have ho : KerC b s [one b (cells (KM s a) 108), hP, hT, hM, hN, hU, hS, hK, hL, hA, hI, hD, hE, hR, hV, hC] := ⟨a, hP, hT, hM, hN, hU, hS, hK, hL, hA, hI, hD, hE, hR, hV, hC, rfl, k⟩
    repeat' (first | refine soA ?_ | refine sgA ?_ | refine sxA ?_ | refine sbA ?_ | refine fun (Q : Post) hQ => ?_ | refine fun (nb : Nat) => (?_ : WL _ _ _ _ _ _ _ _ _) | (refine WL.guard rfl rfl rfl (fun h => ?_) (fun h => ?_) <;> (try dsimp only at h)))
    refine W.loopK (σ := BdS) ⟨TkI b s (2 * c) E0, fun _ => [(5, some (.int .i64 E0)), (0, some (ptrV b))], fun x => x.hs, fun x => muK E0 x.t⟩ ⟨s, _⟩ ⟨ho, hI0, Nat.le_refl _, h.e, rfl⟩ (by repeat' (first | exact trivial | refine ⟨rfl, ?_⟩)) (by (exact keA)) ?_
    clear k ho
    rintro ⟨t, hs1⟩ ⟨ho1, I1, tr1, ev1, h1⟩ Q hL
    dsimp only at ho1 I1 tr1 ev1 h1 ⊢
    have ho2 := ho1
    obtain ⟨a, hP, hT, hM, hN, hU, hS, hK, hL', hA, hI, hD, hE, hR, hV, hC, rfl, k⟩ := ho1
    repeat' (first | refine soA ?_ | refine sgA ?_ | refine sxA ?_ | refine sbA ?_ | refine fun (Q : Post) hQ => ?_ | refine fun (nb : Nat) => (?_ : WL _ _ _ _ _ _ _ _ _) | (refine WL.guard rfl rfl rfl (fun h => ?_) (fun h => ?_) <;> (try dsimp only at h)))
    refine W.cond rfl (fun hb => ?_) (fun hb => ?_)
    · have hlt : t.now < E0 := by simpa using hb
      have hlt2 : t.now < t.p.horizon := by have := I1.e; omega
      have htl := tr1.len hI0 h.tr
      have hel := KE.len ev1 I1.mom
      have hv := stepK_mv I1.ok I1.mom
      repeat' (first | ((refine WL.ex0 (WO.callN Tryz.func154 rfl (by kernel_rfl) rfl (by (exact tsA)) (fun G hG hh => step_any b t G _ ho2 I1.ok (by omega) (by omega)) ?_); rintro v own' ⟨rfl, hk2⟩; rw [← List.append_nil own'] at hk2)) | ((refine WL.ex rfl (WO.callN Tryz.func154 rfl (by kernel_rfl) rfl (by (exact tsA)) (fun G hG hh => step_any b t G _ ho2 I1.ok (by omega) (by omega)) ?_); rintro v own' ⟨rfl, hk2⟩; rw [← List.append_nil own'] at hk2)) | ((refine WL.ex0 (WO.callN Tryz.func57 rfl (by kernel_rfl) rfl (Takes.self _) (fun G hG hh => boundary_any b (stepK t) (2 * c) G _ hk2 (stepK_ok I1.ok) (hv.mom I1.mom hlt2) (hv.e I1.ok ev1) (by omega)) ?_); rintro v own2 ⟨rfl, hk3⟩)) | ((refine WL.ex rfl (WO.callN Tryz.func57 rfl (by kernel_rfl) rfl (Takes.self _) (fun G hG hh => boundary_any b (stepK t) (2 * c) G _ hk2 (stepK_ok I1.ok) (hv.mom I1.mom hlt2) (hv.e I1.ok ev1) (by omega)) ?_); rintro v own2 ⟨rfl, hk3⟩)) | (first | refine soA ?_ | refine sgA ?_ | refine sxA ?_ | refine sbA ?_ | refine fun (Q : Post) hQ => ?_ | refine fun (nb : Nat) => (?_ : WL _ _ _ _ _ _ _ _ _) | (refine WL.guard rfl rfl rfl (fun h => ?_) (fun h => ?_) <;> (try dsimp only at h))))
      exact hL.nx ⟨roundK t, own2⟩ _ _ ⟨hk3, (tickF_less E0 t _ I1 (by unfold tickF; rw [if_pos hlt])).1, tr1.next I1 hlt, roundK_e I1.ok I1.mom hlt2 ev1, by rw [← h1]; exact (tick_next I1 hlt).symm⟩ (roundK_less I1.ok I1.mom I1.e hlt) (by repeat' (first | exact trivial | refine ⟨rfl, ?_⟩)) (keep_app own2 _)
    · have hge : ¬ t.now < E0 := by simpa using hb
      have ht : t = tickT s E0 := by rw [← h1, tick_end hge]
      repeat' (first | refine soA ?_ | refine sgA ?_ | refine sxA ?_ | refine sbA ?_ | refine fun (Q : Post) hQ => ?_ | refine fun (nb : Nat) => (?_ : WL _ _ _ _ _ _ _ _ _) | (refine WL.guard rfl rfl rfl (fun h => ?_) (fun h => ?_) <;> (try dsimp only at h)))
      (refine seE ?_)
      exact ⟨[one b (cells (KM t a) 108), hP, hT, hM, hN, hU, hS, hK, hL', hA, hI, hD, hE, hR, hV, hC], (by (exact keA)), by rw [e], by rw [e]; exact ht ▸ ho2⟩
end Go.Proofs.YtflgnpidelkkpaaGreat
