/- part 31 of the proof: contracts of the functions that the law reaches, and plain laws. -/
import Derived.Test.YtflgnpidelkkpaaGreatMq30
namespace Go.Proofs.YtflgnpidelkkpaaGreat
set_option maxRecDepth 8000
set_option maxHeartbeats 1000000
set_option linter.unusedVariables false
set_option linter.unusedSimpArgs false
structure KMom (s : Kn) : Prop where
  now0 : 0 ≤ s.now
  nowH : s.now < s.p.horizon + 256
  hor : 1 ≤ s.p.horizon ∧ s.p.horizon ≤ 16384
  sw : 0 ≤ s.p.switch ∧ s.p.switch ≤ 256
  slp : ∀ x ∈ s.p.sleeps, 0 ≤ x.enter ∧ x.enter ≤ 256 ∧ 0 ≤ x.exit ∧ x.exit ≤ 256 ∧ 1 ≤ x.even
  dsum : ∀ o ∈ s.p.devices, o.down + o.up ≤ o.even
  dev : ∀ (i : Nat) o x, s.p.devices[i]? = some o → s.devs[i]? = some x → DevR o x s.now
  dst : ∀ x ∈ s.devs, x.start ≤ s.now
  lat : ∀ x ∈ s.latch, 0 ≤ x.mom ∧ x.mom ≤ 65536
  tim : ∀ x ∈ s.timers, 0 ≤ x.mom ∧ x.mom ≤ 65536 ∧ x.every ≤ 16384
  wak : 0 ≤ s.wake ∧ s.wake ≤ 65536
theorem KMom.big {s : Kn} (m : KMom s) : 0 ≤ s.now ∧ s.now ≤ 16640 := ⟨m.now0, by have := m.nowH; have := m.hor; omega⟩
theorem DevR.at {d : DeviceV} {x : DevV} {now now' : Int} (h : DevR d x now) (hn : 0 ≤ now' ∧ now' ≤ 1099511627776) : DevR d x now' := { h with now := hn }
theorem fold_in {α : Type} {f : Int → α → Int} {lo hi : Int} (h : ∀ s a, lo ≤ s ∧ s ≤ hi → lo ≤ f s a ∧ f s a ≤ hi) : ∀ (l : List α) (s : Int), lo ≤ s ∧ s ≤ hi → lo ≤ l.foldl f s ∧ l.foldl f s ≤ hi
  | [], s, hs => hs
  | a :: l, s, hs => fold_in h l (f s a) (h s a hs)
theorem untilV_in (ts : List TT) (next : List Int) (js : List JobV) (d : Int) {now : Int} (h : 0 ≤ now ∧ now ≤ 1099511627776) : 0 ≤ untilV ts next js d now ∧ untilV ts next js d now ≤ 1099511627776 := by
  unfold untilV
  split
  · exact h
  · refine fold_in (fun s a hs => ?_) _ _ (by omega)
    unfold untilT
    split
    · exact hs
    · split
      · have h1 : now ≤ fromV next a now := by unfold fromV maxV; split <;> omega
        unfold minV; split <;> omega
      · exact hs
theorem relK_mom {s : Kn} {x : TimerV} (m : KMom s) : KMom (relK s x) := { m with lat := fun y hy => m.lat y (List.mem_filter.1 hy).1 }
theorem expK_mom {s : Kn} {x : TimerV} (m : KMom s) (hx : x ∈ s.timers) (hm : x.mom ≤ s.now) : KMom (expK s x) := { m with
  tim := fun y hy => by
    have hb := m.big
    have hxb := m.tim x hx
    have hy : y ∈ nextT x s.timers := hy
    unfold nextT at hy
    split at hy
    · next he =>
      rcases List.mem_append.1 hy with hy | hy
      · exact m.tim y (List.mem_filter.1 hy).1
      · rw [List.mem_singleton] at hy
        subst hy
        have : laterV x.mom x.every = x.mom + x.every := by unfold laterV; rw [if_neg (by omega)]
        show 0 ≤ laterV x.mom x.every ∧ laterV x.mom x.every ≤ 65536 ∧ x.every ≤ 16384
        omega
    · exact m.tim y (List.mem_filter.1 hy).1 }
theorem awayB_even {o : DeviceV} {x : DevV} {now till : Int} (h : devAwayB o x now till = true) : o.even ≤ till - now := by
  unfold devAwayB at h
  simp only [Bool.and_eq_true, Bool.not_eq_true', decide_eq_false_iff_not, Int.not_lt] at h
  exact h.2
theorem awayF_mom {s : Kn} {d : Nat} (m : KMom s) : KMom (awayF s d) := by
  unfold awayF
  split
  · next x o hx ho =>
    split
    · next hb =>
      refine { m with
        dst := fun y hy => by
          rcases List.mem_or_eq_of_mem_set hy with hy | rfl
          · exact m.dst y hy
          · exact Int.le_refl _
        dev := fun i o' x' ho' hx' => ?_ }
      have hx' : (s.devs.set d ⟨s.now, untilV s.tasks s.next s.jobs d s.now⟩)[i]? = some x' := hx'
      by_cases e : d = i
      · subst e
        rw [List.getElem?_set_self (List.getElem?_eq_some_iff.1 hx).1] at hx'
        cases hx'
        have ho' : s.p.devices[d]? = some o' := ho'
        rw [ho] at ho'; cases ho'
        have h0 := m.dev d o x ho hx
        have hm := m.big
        have hu := untilV_in s.tasks s.next s.jobs d (now := s.now) (by omega)
        have he := awayB_even hb
        have hs := m.dsum o (List.mem_of_getElem? ho)
        exact { h0 with start := by dsimp only; omega, until_ := hu, long := .inr (by dsimp only; omega) }
      · rw [List.getElem?_set_ne e] at hx'
        exact m.dev i o' x' ho' hx'
    · exact m
  · exact m
theorem awayN_mom {s : Kn} (m : KMom s) : ∀ n, KMom (awayN s n)
  | 0 => m
  | n + 1 => by rw [awayN_succ]; exact awayF_mom (awayN_mom m n)
theorem releaseK_mom {s : Kn} (m : KMom s) : KMom (releaseK s) := releaseK_inv (fun s x m _ _ => relK_mom m) m
theorem expireK_mom {s : Kn} (m : KMom s) : KMom (expireK s) := expireK_inv (fun s x m hx hm => expK_mom m hx hm) m
theorem boundaryK_mom {s : Kn} (m : KMom s) : KMom (boundaryK s) := awayN_mom (expireK_mom (releaseK_mom m)) _
def KE (s : Kn) (c : Int) : Prop := (s.events.length : Int) + 2 * s.latch.length + s.jobs.length + qT s.now s.timers ≤ c + 4 * s.now
theorem putK_len (l : List JobV) (j : JobV) : (putK l j).length = (offJ j.task l).length + 1 := by rw [← (putK_perm l j).length_eq]; rfl
theorem offJ_lt {l : List JobV} {t : Int} (h : ∃ j ∈ l, j.task = t) : (offJ t l).length + 1 ≤ l.length := by
  obtain ⟨j, hj, e⟩ := h
  exact List.length_filter_lt_length_iff_exists.2 ⟨j, hj, by simp [e]⟩
theorem offJ_le (l : List JobV) (t : Int) : (offJ t l).length ≤ l.length := List.length_filter_le _ _
theorem relK_e {s : Kn} {x : TimerV} {c : Int} (h : KE s c) (hx : x ∈ s.latch) : KE (relK s x) c := by
  unfold KE at *
  have h1 := offT_lt hx
  have h2 := putK_len s.jobs (newJ s x)
  have h3 := offJ_le s.jobs (newJ s x).task
  show ((s.events ++ [_]).length : Int) + 2 * (offT x.id s.latch).length + (putK s.jobs (newJ s x)).length + qT s.now s.timers ≤ c + 4 * s.now
  rw [List.length_append, List.length_singleton]
  omega
theorem expK_e {s : Kn} {x : TimerV} {c : Int} (h : KE s c) (hx : x ∈ s.timers) (hm : x.mom ≤ s.now) (hn : s.now < 1099511627776) : KE (expK s x) c := by
  unfold KE at *
  have h1 := qT_next hx hm hn
  show ((s.events ++ [_]).length : Int) + 2 * s.latch.length + s.jobs.length + qT s.now (nextT x s.timers) ≤ c + 4 * s.now
  rw [List.length_append, List.length_singleton]
  omega
theorem KE.same {s t : Kn} {c : Int} (h : KE s c) (k : SameBut s t) : KE t c := by
  unfold KE at *
  rw [k.events, k.latch, k.jobs, k.now, k.timers]; exact h
theorem boundaryK_e {s : Kn} {c : Int} (h : KE s c) (m : KMom s) : KE (boundaryK s) c := by
  have h1 : KE (releaseK s) c := releaseK_inv (J := fun s => KE s c) (fun s x h hx _ => relK_e h hx) h
  have h2 : KE (expireK (releaseK s)) c ∧ KMom (expireK (releaseK s)) := expireK_inv (J := fun s => KE s c ∧ KMom s) (fun s x h hx hm => ⟨expK_e h.1 hx hm (by have := h.2.big; omega), expK_mom h.2 hx hm⟩) ⟨h1, releaseK_mom m⟩
  exact h2.1.same (awayN_same _ _)
def zK (s : Kn) : Nat := if s.asleep = true then (if (slpOf s.p s.state).exit = 0 ∧ s.wake ≤ s.now then 2 else 0) else 1
def sigK (s : Kn) : Nat := 2 * (2 * s.latch.length + s.jobs.length) + unst s.jobs + (if s.ended = true then 1 else 0) + zK s
theorem sigK_le {s : Kn} (w : KOk s) : sigK s ≤ 63 := by
  have h1 := w.llen
  have h2 := w.jord.nodup_le w.jnd w.jin
  have h3 : unst s.jobs ≤ s.jobs.length := List.length_filter_le _ _
  have h4 : zK s ≤ 2 := by unfold zK; split <;> (try split) <;> omega
  unfold sigK
  split <;> omega
structure StepMv (s t : Kn) : Prop where
  len : ∃ d : Int, 0 ≤ d ∧ d ≤ 256 ∧ t.now = s.now + d ∧ (0 < d ∨ sigK t < sigK s)
  p : t.p = s.p
  devs : t.devs = s.devs
  latch : t.latch = s.latch
  timers : t.timers = s.timers
  wake : 0 ≤ t.wake ∧ t.wake ≤ 65536
  ev : t.events.length + t.jobs.length ≤ s.events.length + s.jobs.length
  st : t.stack.length + unst t.jobs ≤ s.stack.length + unst s.jobs
theorem now_did {s : Kn} (m : KMom s) {len : Int} (h : 0 ≤ len ∧ len ≤ 256) : w64 (s.now + len) = s.now + len := w64_in (by have := m.big; omega)
theorem slpOf_mem {p : PP} {n : Int} (h : 0 ≤ n ∧ n < (p.sleeps.length : Nat)) : slpOf p n ∈ p.sleeps := by
  obtain ⟨k, rfl⟩ : ∃ k : Nat, n = k := ⟨n.toNat, by omega⟩
  have hk : k < p.sleeps.length := by omega
  rw [slpOf_at (List.getElem?_eq_getElem hk)]
  exact List.getElem_mem hk
theorem levOf_mem {p : PP} {n : Int} (h : 0 ≤ n ∧ n < (p.levels.length : Nat)) : levOf p n ∈ p.levels := by
  obtain ⟨k, rfl⟩ : ∃ k : Nat, n = k := ⟨n.toNat, by omega⟩
  have hk : k < p.levels.length := by omega
  rw [levOf_at (List.getElem?_eq_getElem hk)]
  exact List.getElem_mem hk
theorem sleepingK_mv {s : Kn} (w : KOk s) (m : KMom s) (ha : s.asleep = true) : StepMv s (sleepingK s) := by
  have hs := m.slp _ (slpOf_mem (w.slpd ha))
  have hb := m.big
  have hw := m.wak
  have e1 : w64 (s.wake - (slpOf s.p s.state).exit) = s.wake - (slpOf s.p s.state).exit := w64_in (by omega)
  unfold sleepingK
  rw [e1]
  split
  · next h =>
    refine ⟨⟨(slpOf s.p s.state).exit, hs.2.2.1, hs.2.2.2.1, now_did m ⟨hs.2.2.1, hs.2.2.2.1⟩, ?_⟩, rfl, rfl, rfl, rfl, hw, Nat.le_refl _, Nat.le_refl _⟩
    by_cases h0 : (slpOf s.p s.state).exit = 0
    · right
      have e2 : zK s = 2 := by unfold zK; rw [if_pos ha, if_pos ⟨h0, by omega⟩]
      have e3 : zK (didK { s with asleep := false } 6 (slpOf s.p s.state).exit s.state 0 0) = 1 := rfl
      unfold sigK
      rw [e2, e3]
      exact Nat.lt_succ_self _
    · left; omega
  · exact ⟨⟨1, by omega, by omega, now_did m (by omega), .inl (by omega)⟩, rfl, rfl, rfl, rfl, hw, Nat.le_refl _, Nat.le_refl _⟩
theorem best_even (sl : List SleepV) (stay : Int) : ∀ k, k ≤ sl.length → ((List.range k).foldl (bestF sl stay) (0, false)).2 = true → ∃ x, sl[((List.range k).foldl (bestF sl stay) (0, false)).1.toNat]? = some x ∧ x.even ≤ stay
  | 0, _, h => by cases h
  | k + 1, hk, h => by
    rw [foldl_range_succ] at h ⊢
    have ih := best_even sl stay k (by omega)
    revert h ih
    generalize (List.range k).foldl (bestF sl stay) (0, false) = b
    intro h ih
    unfold bestF at h ⊢
    split at h
    · exact ih h
    · next s hs =>
      split at h
      · next hc =>
        rw [if_pos hc]
        refine ⟨s, ?_, ?_⟩
        · show sl[((k : Int)).toNat]? = some s
          rw [Int.toNat_natCast]; exact hs
        · unfold betterB at hc
          simp only [Bool.and_eq_true, decide_eq_true_eq] at hc
          exact hc.1
      · next hc => rw [if_neg hc]; exact ih h
theorem readyV_near (p : PP) (ts : List TT) (next : List Int) {now : Int} (h : 0 ≤ now ∧ now ≤ 16640) : now ≤ readyV p ts next now ∧ readyV p ts next now ≤ now + 1024 := by
  unfold readyV
  have h1 : 0 ≤ minV (maxV (floorV (leastV p ts next [] [] now now)) 0) 1024 ∧ minV (maxV (floorV (leastV p ts next [] [] now now)) 0) 1024 ≤ 1024 := by
    unfold minV maxV; repeat' split <;> omega
  rw [w64_in (by omega)]; omega
theorem nobodyK_mv {s : Kn} (w : KOk s) (m : KMom s) (ha : s.asleep = false) : StepMv s (nobodyK s) := by
  have hb := m.big
  have hr := readyV_near s.p s.tasks s.next hb
  unfold nobodyK
  split
  · next h =>
    have hin := bestF_in s.p.sleeps (w64 (readyV s.p s.tasks s.next s.now - s.now)) s.p.sleeps.length (Nat.le_refl _) h.1
    obtain ⟨y, hy, he⟩ := best_even s.p.sleeps (w64 (readyV s.p s.tasks s.next s.now - s.now)) s.p.sleeps.length (Nat.le_refl _) h.1
    rw [w64_in (by omega)] at he
    change s.p.sleeps[(bestV s.p.sleeps (w64 (readyV s.p s.tasks s.next s.now - s.now))).1.toNat]? = some y at hy
    obtain ⟨k, hk, hl⟩ := hin
    change (bestV s.p.sleeps (w64 (readyV s.p s.tasks s.next s.now - s.now))).1 = k at hk
    generalize hbv : bestV s.p.sleeps (w64 (readyV s.p s.tasks s.next s.now - s.now)) = bv at *
    rw [hk] at hy ⊢
    rw [Int.toNat_natCast] at hy
    have hsl : slpOf s.p (k : Int) = y := slpOf_at hy
    have hs := m.slp y (List.mem_of_getElem? hy)
    rw [hsl]
    refine ⟨⟨y.enter, hs.1, hs.2.1, now_did m ⟨hs.1, hs.2.1⟩, ?_⟩, rfl, rfl, rfl, rfl, ?_, Nat.le_refl _, Nat.le_refl _⟩
    · by_cases h0 : y.enter = 0
      · right
        have e2 : zK s = 1 := by unfold zK; rw [if_neg (by rw [ha]; decide)]
        have e3 : zK (didK { s with ended := false, asleep := true, state := (k : Int), wake := readyV s.p s.tasks s.next s.now } 4 y.enter (k : Int) 0 0) = 0 := by
          have hn0 := now_did m (len := y.enter) ⟨hs.1, hs.2.1⟩
          show (if (slpOf s.p (k : Int)).exit = 0 ∧ readyV s.p s.tasks s.next s.now ≤ w64 (s.now + y.enter) then 2 else 0) = 0
          rw [if_neg]
          rintro ⟨h1, h2⟩
          rw [hn0] at h2
          omega
        show 2 * (2 * s.latch.length + s.jobs.length) + unst s.jobs + 0 + zK (didK { s with ended := false, asleep := true, state := (k : Int), wake := readyV s.p s.tasks s.next s.now } 4 y.enter (k : Int) 0 0) < sigK s
        unfold sigK
        rw [e2, e3]; split <;> omega
      · left; omega
    · show 0 ≤ readyV s.p s.tasks s.next s.now ∧ readyV s.p s.tasks s.next s.now ≤ 65536
      omega
  · exact ⟨⟨1, by omega, by omega, now_did m (by omega), .inl (by omega)⟩, rfl, rfl, rfl, rfl, m.wak, Nat.le_refl _, Nat.le_refl _⟩
theorem jin_task {s : Kn} {j : JobV} (hj : j ∈ s.jobs) : (offJ j.task s.jobs).length + 1 ≤ s.jobs.length := offJ_lt ⟨j, hj, rfl⟩
theorem endK_mv {s : Kn} {kind : Int} {j : JobV} (m : KMom s) (ha : s.asleep = false) (hj : j ∈ s.jobs) : StepMv s (endK s kind j) := by
  have h1 := jin_task hj
  have h2 := unst_off_le j.task s.jobs
  refine ⟨⟨0, by omega, by omega, (Int.add_zero _).symm, .inr ?_⟩, rfl, rfl, rfl, rfl, m.wak, ?_, Nat.add_le_add (List.length_filter_le _ _) h2⟩
  · show 2 * (2 * s.latch.length + (offJ j.task s.jobs).length) + unst (offJ j.task s.jobs) + 1 + zK s < sigK s
    unfold sigK
    split <;> omega
  · show (s.events ++ [_]).length + (offJ j.task s.jobs).length ≤ _
    rw [List.length_append, List.length_singleton]; omega
theorem startK_jobs {s : Kn} {j : JobV} (hj : j ∈ s.jobs) : (startK s j).jobs.length ≤ s.jobs.length ∧ unst (startK s j).jobs + (if j.started = true then 0 else 1) ≤ unst s.jobs := by
  unfold startK
  split
  · next h => exact ⟨Nat.le_refl _, Nat.le_refl _⟩
  · next h =>
    have h1 := jin_task hj
    have h2 := putK_len s.jobs { j with started := true }
    have h3 := unst_off_lt hj (by simpa using h)
    have h4 : unst (putK s.jobs { j with started := true }) = unst (offJ j.task s.jobs) := by rw [unst_put]; rfl
    refine ⟨?_, ?_⟩
    · show (putK s.jobs { j with started := true }).length ≤ _
      rw [h2]; exact h1
    · show unst (putK s.jobs { j with started := true }) + 1 ≤ _
      omega
theorem startK_st {s : Kn} {j : JobV} (hj : j ∈ s.jobs) : (startK s j).stack.length + unst (startK s j).jobs ≤ s.stack.length + unst s.jobs := by
  unfold startK
  split
  · exact Nat.le_refl _
  · next h =>
    have h3 := unst_off_lt hj (by simpa using h)
    have h4 : unst (putK s.jobs { j with started := true }) = unst (offJ j.task s.jobs) := by rw [unst_put]; rfl
    show (s.stack ++ [j.task]).length + unst (putK s.jobs { j with started := true }) ≤ _
    rw [List.length_append, List.length_singleton]; omega
theorem startK_eq (s : Kn) (j : JobV) : startK s j = { s with jobs := (startK s j).jobs, stack := (startK s j).stack } := by unfold startK; split <;> rfl
theorem readyK_eq (s : Kn) (j : JobV) : readyK s j = { s with jobs := (startK s j).jobs, stack := (startK s j).stack, ended := false } := by
  unfold readyK; rw [startK_eq]
theorem chooseK_mv {s : Kn} {j : JobV} (m : KMom s) (ha : s.asleep = false) (hj : j ∈ s.jobs) (hc : j.started = false ∨ s.ended = true) (h : (chooseK s j).2 = true) : StepMv s (chooseK s j).1 := by
  unfold chooseK at h ⊢
  split at h
  · cases h
  · next hne =>
    rw [if_neg hne]
    have h1 := startK_jobs hj
    have hp : (readyK s j).p = s.p := by rw [readyK_eq]
    generalize speedK (readyK s j) j = v
    rw [readyK_eq]
    refine ⟨⟨s.p.switch, m.sw.1, m.sw.2, now_did m m.sw, ?_⟩, rfl, rfl, rfl, rfl, m.wak, ?_, startK_st hj⟩
    · by_cases h0 : s.p.switch = 0
      · right
        have hz : zK s = 1 := by unfold zK; rw [if_neg (by rw [ha]; decide)]
        have hz' : zK (didK { s with jobs := (startK s j).jobs, stack := (startK s j).stack, ended := false, level := v } 3 s.p.switch v 0 0) = 1 := by
          unfold zK; rw [if_neg (by show ¬ s.asleep = true; rw [ha]; decide)]
        show 2 * (2 * s.latch.length + (startK s j).jobs.length) + unst (startK s j).jobs + 0 + zK (didK { s with jobs := (startK s j).jobs, stack := (startK s j).stack, ended := false, level := v } 3 s.p.switch v 0 0) < sigK s
        unfold sigK
        rw [hz, hz']
        rcases hc with hc | hc
        · rw [hc] at h1
          simp only [Bool.false_eq_true, if_false] at h1
          split <;> omega
        · rw [if_pos hc]
          have : unst (startK s j).jobs ≤ unst s.jobs := by have := h1.2; omega
          omega
      · left; have := m.sw; omega
    · exact Nat.add_le_add_left h1.1 _
theorem goK_mv {s : Kn} {n : Int} {j : JobV} (w : KOk s) (m : KMom s) (hj : ∃ i ∈ s.jobs, i.task = j.task) (hs : j.started = true) : StepMv s (goK s n j) := by
  have hP := w.slow _ (levOf_mem w.lvl)
  have hl := offJ_lt hj
  have hd : w64 (s.now + (levOf s.p s.level).P) = s.now + (levOf s.p s.level).P := now_did m (by omega)
  unfold goK
  split
  · refine ⟨⟨(levOf s.p s.level).P, by omega, hP.2, hd, .inl (by omega)⟩, rfl, rfl, rfl, rfl, m.wak, ?_, Nat.add_le_add_left ?_ _⟩
    rotate_left
    · show unst (putK s.jobs (jlessV j)) ≤ _
      have e : (jlessV j).started = true := hs
      rw [unst_put, if_pos e]; exact unst_off_le _ _
    show s.events.length + (putK s.jobs (jlessV j)).length ≤ _
    rw [putK_len]
    exact Nat.add_le_add_left hl _
  · refine ⟨⟨(levOf s.p s.level).P, by omega, hP.2, hd, .inl (by omega)⟩, rfl, rfl, rfl, rfl, m.wak, ?_, Nat.add_le_add (List.length_filter_le _ _) (unst_off_le _ _)⟩
    show (s.events ++ [_]).length + (offJ j.task s.jobs).length ≤ _
    rw [List.length_append, List.length_singleton]; omega
theorem readyK_mom {s : Kn} {j : JobV} (m : KMom s) : KMom (readyK s j) := by rw [readyK_eq]; exact { m with }
theorem runsK_mv {s : Kn} {n : Int} {j : JobV} (w : KOk s) (m : KMom s) (ha : s.asleep = false) (hj : j ∈ s.jobs) : StepMv s (runsK s n j) := by
  unfold runsK
  split
  · exact endK_mv m ha hj
  · split
    · next hc =>
      split
      · next h => exact chooseK_mv m ha hj hc h
      · next h =>
        have e : (chooseK s j).1 = readyK s j := by
          unfold chooseK at h ⊢
          split at h
          · next h2 => rw [if_pos h2]
          · exact absurd rfl h
        rw [e]
        have h1 := startK_jobs hj
        have hm : begK j ∈ (readyK s j).jobs := e ▸ chooseK_mem hj
        have g := goK_mv (n := n) (j := begK j) (readyK_ok w hj) (readyK_mom m) ⟨_, hm, rfl⟩ rfl
        have hev : (readyK s j).events.length + (readyK s j).jobs.length ≤ s.events.length + s.jobs.length := by
          rw [readyK_eq]; exact Nat.add_le_add_left h1.1 _
        have hP := (readyK_ok w hj).slow _ (levOf_mem (readyK_ok w hj).lvl)
        obtain ⟨d, d1, d2, d3, _⟩ := g.len
        have hn : (readyK s j).now = s.now := by rw [readyK_eq]
        have hd : d = (levOf (readyK s j).p (readyK s j).level).P := by
          have h2 : (goK (readyK s j) n (begK j)).now = w64 ((readyK s j).now + (levOf (readyK s j).p (readyK s j).level).P) := by unfold goK; split <;> rfl
          rw [now_did (readyK_mom m) (by omega)] at h2
          omega
        exact ⟨⟨d, d1, d2, by rw [d3, hn], .inl (by omega)⟩, by rw [g.p, readyK_eq], by rw [g.devs, readyK_eq], by rw [g.latch, readyK_eq], by rw [g.timers, readyK_eq], g.wake, Nat.le_trans g.ev hev, Nat.le_trans g.st (by rw [readyK_eq]; exact startK_st hj)⟩
    · next hc =>
      have hs : j.started = true := by cases h4 : j.started with | true => rfl | false => exact absurd (Or.inl h4) hc
      exact goK_mv w m ⟨j, hj, rfl⟩ hs
theorem stepK_mv {s : Kn} (w : KOk s) (m : KMom s) : StepMv s (stepK s) := by
  unfold stepK
  split
  · next h => exact sleepingK_mv w m h
  · next h =>
    have h : s.asleep = false := by simpa using h
    split
    · next h2 => exact runsK_mv w m h (jobK_of (whoK_job w h2)).1
    · exact nobodyK_mv w m h
theorem StepMv.mom {s t : Kn} (v : StepMv s t) (m : KMom s) (hn : s.now < s.p.horizon) : KMom t := by
  obtain ⟨d, d1, d2, d3, _⟩ := v.len
  have hb := m.big
  exact { now0 := by omega, nowH := by rw [v.p]; omega, hor := by rw [v.p]; exact m.hor, sw := by rw [v.p]; exact m.sw, slp := by rw [v.p]; exact m.slp, dsum := by rw [v.p]; exact m.dsum,
          dev := fun i o x ho hx => by rw [v.p] at ho; rw [v.devs] at hx; exact (m.dev i o x ho hx).at (by omega),
          dst := fun x hx => by rw [v.devs] at hx; have := m.dst x hx; omega,
          lat := by rw [v.latch]; exact m.lat, tim := by rw [v.timers]; exact m.tim, wak := v.wake }
theorem StepMv.e {s t : Kn} {c : Int} (v : StepMv s t) (w : KOk s) (h : KE s c) : KE t c := by
  obtain ⟨d, d1, d2, d3, _⟩ := v.len
  have h1 := qT_later (now := s.now) d1 s.timers
  have h2 := w.tlen4
  have h3 := v.ev
  have h4 : (s.timers.length : Int) * d ≤ 4 * d := Int.mul_le_mul_of_nonneg_right (by omega) d1
  unfold KE at *
  rw [v.latch, v.timers, d3]
  omega
end Go.Proofs.YtflgnpidelkkpaaGreat
namespace Go.Proofs.YtflgnpidelkkpaaGreat
set_option maxRecDepth 8000
set_option maxHeartbeats 1000000
set_option linter.unusedVariables false
set_option linter.unusedSimpArgs false
structure Bnd (s t : Kn) : Prop where
  p : t.p = s.p
  now : t.now = s.now
  level : t.level = s.level
  policy : t.policy = s.policy
  naps : t.naps = s.naps
  tasks : t.tasks = s.tasks
  stack : t.stack = s.stack
  ended : t.ended = s.ended
  held : t.held = s.held
  asleep : t.asleep = s.asleep
  state : t.state = s.state
  wake : t.wake = s.wake
  trace : t.trace = s.trace
  meter : t.meter = s.meter
  sig : sigK t ≤ sigK s
  stk : t.stack.length + unst t.jobs + t.latch.length ≤ s.stack.length + unst s.jobs + s.latch.length
theorem Bnd.refl (s : Kn) : Bnd s s := ⟨rfl, rfl, rfl, rfl, rfl, rfl, rfl, rfl, rfl, rfl, rfl, rfl, rfl, rfl, Nat.le_refl _, Nat.le_refl _⟩
theorem Bnd.trans {s t u : Kn} (h : Bnd s t) (k : Bnd t u) : Bnd s u :=
  ⟨k.p.trans h.p, k.now.trans h.now, k.level.trans h.level, k.policy.trans h.policy, k.naps.trans h.naps, k.tasks.trans h.tasks, k.stack.trans h.stack, k.ended.trans h.ended, k.held.trans h.held, k.asleep.trans h.asleep, k.state.trans h.state, k.wake.trans h.wake, k.trace.trans h.trace, k.meter.trans h.meter, Nat.le_trans k.sig h.sig, Nat.le_trans k.stk h.stk⟩
theorem SameBut.bnd {s t : Kn} (h : SameBut s t) : Bnd s t := by
  refine ⟨h.p, h.now, h.level, h.policy, h.naps, h.tasks, h.stack, h.ended, h.held, h.asleep, h.state, h.wake, h.trace, h.meter, Nat.le_of_eq ?_, Nat.le_of_eq (by rw [h.stack, h.jobs, h.latch])⟩
  unfold sigK zK
  rw [h.latch, h.jobs, h.ended, h.asleep, h.p, h.state, h.wake, h.now]
theorem relK_bnd {s : Kn} {x : TimerV} (hx : x ∈ s.latch) : Bnd s (relK s x) := by
  have h1 := offT_lt hx
  have h2 := putK_len s.jobs (newJ s x)
  have h3 := offJ_le s.jobs (newJ s x).task
  have h4 : unst (putK s.jobs (newJ s x)) = unst (offJ x.id s.jobs) + 1 := by rw [unst_put]; rfl
  have h5 := unst_off_le x.id s.jobs
  refine ⟨rfl, rfl, rfl, rfl, rfl, rfl, rfl, rfl, rfl, rfl, rfl, rfl, rfl, rfl, ?_, ?_⟩
  · show 2 * (2 * (offT x.id s.latch).length + (putK s.jobs (newJ s x)).length) + unst (putK s.jobs (newJ s x)) + (if s.ended = true then 1 else 0) + zK s ≤ sigK s
    unfold sigK
    omega
  · show s.stack.length + unst (putK s.jobs (newJ s x)) + (offT x.id s.latch).length ≤ _
    omega
theorem expK_bnd (s : Kn) (x : TimerV) : Bnd s (expK s x) := ⟨rfl, rfl, rfl, rfl, rfl, rfl, rfl, rfl, rfl, rfl, rfl, rfl, rfl, rfl, Nat.le_refl _, Nat.le_refl _⟩
theorem releaseK_bnd (s : Kn) : Bnd s (releaseK s) := releaseK_inv (J := fun t => Bnd s t) (fun t x h hx _ => h.trans (relK_bnd hx)) (Bnd.refl s)
theorem expireK_bnd (s : Kn) : Bnd s (expireK s) := expireK_inv (J := fun t => Bnd s t) (fun t x h hx _ => h.trans (expK_bnd t x)) (Bnd.refl s)
theorem boundaryK_bnd (s : Kn) : Bnd s (boundaryK s) := ((releaseK_bnd s).trans (expireK_bnd _)).trans (awayN_same _ _).bnd
def roundK (s : Kn) : Kn := boundaryK (stepK s)
def tickF (e : Int) (s : Kn) : Option Kn := if s.now < e then some (roundK s) else none
def muK (e : Int) (s : Kn) : Nat := 64 * (e - s.now).toNat + sigK s
def tickT (s : Kn) (e : Int) : Kn := itO (tickF e) (muK e s) s
structure TickI (e : Int) (s : Kn) : Prop where
  ok : KOk s
  mom : KMom s
  e : e ≤ s.p.horizon
theorem roundK_ok {s : Kn} (w : KOk s) : KOk (roundK s) := boundaryK_ok (stepK_ok w)
theorem roundK_mom {s : Kn} (w : KOk s) (m : KMom s) (hn : s.now < s.p.horizon) : KMom (roundK s) := boundaryK_mom ((stepK_mv w m).mom m hn)
theorem roundK_less {e : Int} {s : Kn} (w : KOk s) (m : KMom s) (he : e ≤ s.p.horizon) (hn : s.now < e) : muK e (roundK s) < muK e s := by
  have v := stepK_mv w m
  have b := boundaryK_bnd (stepK s)
  have hs := sigK_le (roundK_ok w)
  have hb := b.sig
  obtain ⟨d, d1, d2, d3, d4⟩ := v.len
  have hnow : (roundK s).now = s.now + d := b.now.trans d3
  unfold muK
  rw [hnow]
  change sigK (roundK s) ≤ sigK (stepK s) at hb
  rcases d4 with d4 | d4
  · omega
  · omega
theorem tickF_less (e : Int) (s t : Kn) (hI : TickI e s) (h : tickF e s = some t) : TickI e t ∧ muK e t < muK e s := by
  unfold tickF at h
  split at h
  · next hn =>
    injection h with h; subst h
    have h1 := hI.e
    exact ⟨⟨roundK_ok hI.ok, roundK_mom hI.ok hI.mom (by omega), by rw [show (roundK s).p = s.p from (boundaryK_bnd _).p.trans (stepK_mv hI.ok hI.mom).p]; exact h1⟩, roundK_less hI.ok hI.mom h1 hn⟩
  · cases h
theorem tick_next {e : Int} {s : Kn} (hI : TickI e s) (hn : s.now < e) : tickT s e = tickT (roundK s) e :=
  itO_next (μ := muK e) (I := TickI e) (tickF_less e) hI (by unfold tickF; rw [if_pos hn])
theorem tick_end {e : Int} {s : Kn} (hn : ¬ s.now < e) : tickT s e = s := itO_end (by unfold tickF; rw [if_neg hn]) _
theorem tickF_some {e : Int} {s t : Kn} (h : tickF e s = some t) : s.now < e ∧ t = roundK s := by
  unfold tickF at h
  split at h
  · injection h with h; exact ⟨by assumption, h.symm⟩
  · cases h
theorem tick_inv {J : Kn → Prop} {e : Int} {s : Kn} (hI : TickI e s) (h : ∀ t, J t → TickI e t → t.now < e → J (roundK t)) (hs : J s) : J (tickT s e) :=
  (itO_inv (J := fun t => J t ∧ TickI e t) (fun t u hJ he => by
    obtain ⟨h1, rfl⟩ := tickF_some he
    exact ⟨h t hJ.1 hJ.2 h1, (tickF_less e t _ hJ.2 he).1⟩) _ s ⟨hs, hI⟩).1
theorem tick_done {e : Int} : ∀ (n : Nat) (s : Kn), TickI e s → muK e s ≤ n → e ≤ (itO (tickF e) n s).now
  | 0, s, hI, h => by
    show e ≤ s.now
    unfold muK at h; omega
  | n + 1, s, hI, h => by
    rw [itO]
    cases he : tickF e s with
    | none =>
      dsimp only
      unfold tickF at he
      split at he
      · cases he
      · omega
    | some t =>
      have := tickF_less e s t hI he
      exact tick_done n t this.1 (by omega)
theorem tick_now {e : Int} {s : Kn} (hI : TickI e s) : e ≤ (tickT s e).now := tick_done _ s hI (Nat.le_refl _)
theorem tick_I {e : Int} {s : Kn} (hI : TickI e s) : TickI e (tickT s e) := tick_inv (J := fun t => TickI e t) hI (fun t _ hI hn => (tickF_less e t _ hI (by unfold tickF; rw [if_pos hn])).1) hI
def KTr (s : Kn) : Prop := (s.trace.length : Int) ≤ 256 * s.now
theorem roundK_tr (s : Kn) : (roundK s).trace.length ≤ s.trace.length + 2 := by
  have := stepK_tr s
  have e : (roundK s).trace = (stepK s).trace := (boundaryK_bnd _).trace
  rw [e]; exact this
def TrI (e : Int) (s0 s : Kn) : Prop := s.trace.length + 2 * muK e s ≤ s0.trace.length + 2 * muK e s0
theorem TrI.next {e : Int} {s0 s : Kn} (h : TrI e s0 s) (hI : TickI e s) (hn : s.now < e) : TrI e s0 (roundK s) := by
  have h1 := roundK_tr s
  have h2 := roundK_less hI.ok hI.mom hI.e hn
  unfold TrI at *
  omega
theorem TrI.len {e : Int} {s0 s : Kn} (h : TrI e s0 s) (hI0 : TickI e s0) (ht : KTr s0) : (s.trace.length : Int) ≤ 100000000 := by
  have h1 := sigK_le hI0.ok
  have h2 := hI0.mom.big
  have h3 := hI0.e
  have h4 := hI0.mom.hor
  unfold TrI muK at h
  unfold KTr at ht
  omega
theorem tick_tr {e : Int} {s : Kn} (hI : TickI e s) (ht : KTr s) : KTr (tickT s e) := by
  by_cases hn : s.now < e
  · have h1 : TrI e s (tickT s e) := tick_inv (J := fun t => TrI e s t) hI (fun t h hI hn => h.next hI hn) (Nat.le_refl _)
    have h2 := tick_now hI
    have h3 := sigK_le hI.ok
    unfold TrI muK at h1
    unfold KTr at *
    omega
  · rw [tick_end hn]; exact ht
theorem roundK_e {s : Kn} {c : Int} (w : KOk s) (m : KMom s) (hn : s.now < s.p.horizon) (h : KE s c) : KE (roundK s) c := boundaryK_e ((stepK_mv w m).e w h) ((stepK_mv w m).mom m hn)
theorem tick_e {e : Int} {s : Kn} {c : Int} (hI : TickI e s) (h : KE s c) : KE (tickT s e) c :=
  tick_inv (J := fun t => KE t c) hI (fun t h hI hn => roundK_e hI.ok hI.mom (by have := hI.e; omega) h) h
theorem KE.len {s : Kn} {c : Int} (h : KE s c) (m : KMom s) : (s.events.length : Int) ≤ c + 66560 := by
  have := m.big
  unfold KE at h; omega
def tickK (s : Kn) (n : Int) : Kn × Int := if withinB n 0 16384 = false then (s, 1) else (tickT s (minV (s.now + n) s.p.horizon), 0)
end Go.Proofs.YtflgnpidelkkpaaGreat
