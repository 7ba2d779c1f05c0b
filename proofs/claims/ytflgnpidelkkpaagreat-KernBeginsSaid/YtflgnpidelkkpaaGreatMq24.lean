/- part 24 of the proof: contracts of the functions that the law reaches, and plain laws. -/
import Derived.Test.YtflgnpidelkkpaaGreatMq7
import Derived.Test.YtflgnpidelkkpaaGreatMq23
import Derived.Test.YtflgnpidelkkpaaGreatMq18
import Derived.Test.YtflgnpidelkkpaaGreatMq19
import Derived.Test.YtflgnpidelkkpaaGreatMq20
import Derived.Test.YtflgnpidelkkpaaGreatMq21
import Derived.Test.YtflgnpidelkkpaaGreatMq22
namespace Go.Proofs.YtflgnpidelkkpaaGreat
set_option maxRecDepth 8000
set_option maxHeartbeats 1000000
set_option linter.unusedVariables false
set_option linter.unusedSimpArgs false
attribute [local irreducible] W X WL WA WB WG WO Rn Own one splice Arr Spec WQ WH Qn
theorem IntervalV.eqL_refl (x : IntervalV) : eqL x.enc x.enc = true := by simp [IntervalV.enc, eqL, eqV]
set_option maxHeartbeats 2000000 in
theorem same_yes (A A' : Option Addr) (c c' : Nat) (xs : List IntervalV) (F : Hp) (h0 : RowAt F [] A (xs.flatMap IntervalV.enc)) (h' : RowAt F [] A' (xs.flatMap IntervalV.enc)) (hm : xs.length ≤ 4611686018427387904) :
    Spec Tryz.prog 55 [.slice A xs.length c, .slice A' xs.length c'] F [] fun v hs => v = .bool true ∧ hs = [] := by
  refine Spec.enter Tryz.func55 rfl Tryz.ntmps55 rfl fun B => ?_
  repeat' (first | refine soA ?_ | refine sgA ?_ | refine sxA ?_ | refine sbA ?_ | refine fun (Q : Post) hQ => ?_ | refine fun (nb : Nat) => (?_ : WL _ _ _ _ _ _ _ _ _) | (refine WL.guard rfl rfl rfl (fun h => ?_) (fun h => ?_) <;> (try dsimp only at h)))
  refine W.cond rfl (fun h => ?_) (fun h => ?_)
  · exfalso; simp at h
  repeat' (first | refine soA ?_ | refine sgA ?_ | refine sxA ?_ | refine sbA ?_ | refine fun (Q : Post) hQ => ?_ | refine fun (nb : Nat) => (?_ : WL _ _ _ _ _ _ _ _ _) | (refine WL.guard rfl rfl rfl (fun h => ?_) (fun h => ?_) <;> (try dsimp only at h)))
  refine W.loopK (σ := Nat) ⟨fun k => k ≤ xs.length, fun k => [(5, some (.int .i64 (k : Nat))), (0, some (.slice A xs.length c)), (1, some (.slice A' xs.length c'))], fun _ => [], fun k => xs.length - k⟩ 0 (Nat.zero_le _) ⟨rfl, rfl, rfl, trivial⟩ Keep.nil fun k hk Q hL => ?_
  dsimp only at hk ⊢
  repeat' (first | refine soA ?_ | refine sgA ?_ | refine sxA ?_ | refine sbA ?_ | refine fun (Q : Post) hQ => ?_ | refine fun (nb : Nat) => (?_ : WL _ _ _ _ _ _ _ _ _) | (refine WL.guard rfl rfl rfl (fun h => ?_) (fun h => ?_) <;> (try dsimp only at h)))
  refine W.cond rfl (fun h => ?_) (fun h => ?_) <;> (try simp only [beq_iff_eq, bne_iff_ne, decide_eq_true_eq, decide_eq_false_iff_not, beq_eq_false_iff_ne, bne_eq_false_iff_eq, Bool.not_true, Bool.not_false, ne_eq, Int.not_lt, Int.not_le, Bool.not_eq_true', Bool.not_eq_false', Bool.not_eq_eq_eq_not] at h)
  · have hlt : k < xs.length := by omega
    obtain ⟨b, o, rfl, g1⟩ := h0.elem 6 IntervalV.enc_len (by omega) k xs[k] (List.getElem?_eq_getElem hlt)
    obtain ⟨b', o', rfl, g2⟩ := h'.elem 6 IntervalV.enc_len (by omega) k xs[k] (List.getElem?_eq_getElem hlt)
    repeat' (first | refine soA ?_ | refine sgA ?_ | refine sxA ?_ | refine sbA ?_ | refine fun (Q : Post) hQ => ?_ | refine fun (nb : Nat) => (?_ : WL _ _ _ _ _ _ _ _ _) | (refine WL.guard rfl rfl rfl (fun h => ?_) (fun h => ?_) <;> (try dsimp only at h)))
    refine dra [] [] ?_
    refine drp 9 0 1 ?_
    refine drp 9 1 3 ?_
    refine drp 9 2 7 (hy := by (exact Rn.indexAddr k rfl rfl rfl hlt)) ?_
    refine drp 9 3 15 (hy := by (apply Rn.loadS; (exact rfl); (exact g1); (exact rfl))) ?_
    refine drp 9 4 31 ?_
    refine drp 9 5 63 ?_
    refine drp 9 6 127 (hy := by (exact Rn.indexAddr k rfl rfl rfl hlt)) ?_
    refine drp 9 7 255 (hy := by (apply Rn.loadS; (exact rfl); (exact g2); (exact rfl))) ?_
    refine drp 9 8 511 ?_
    refine drz ?_
    repeat' (first | refine soA ?_ | refine sgA ?_ | refine sxA ?_ | refine sbA ?_ | refine fun (Q : Post) hQ => ?_ | refine fun (nb : Nat) => (?_ : WL _ _ _ _ _ _ _ _ _) | (refine WL.guard rfl rfl rfl (fun h => ?_) (fun h => ?_) <;> (try dsimp only at h)))
    refine W.cond rfl (fun h => ?_) (fun h => ?_)
    · rw [IntervalV.eqL_refl] at h; cases h
    repeat' (first | refine soA ?_ | refine sgA ?_ | refine sxA ?_ | refine sbA ?_ | refine fun (Q : Post) hQ => ?_ | refine fun (nb : Nat) => (?_ : WL _ _ _ _ _ _ _ _ _) | (refine WL.guard rfl rfl rfl (fun h => ?_) (fun h => ?_) <;> (try dsimp only at h)))
    exact hL.nx (k + 1) _ _ (by dsimp only; omega) (by dsimp only; omega) ⟨rfl, rfl, rfl, trivial⟩ Keep.nil
  · repeat' (first | (first | (apply WL.rd; (exact rfl); (exact rqA)) | refine WL.nil ?_ | (apply WL.loadA; (exact rfl); (exact rfl); (exact atA); (exact rfl)) | refine WL.yes rfl rfl ?_ | refine WL.no rfl rfl rfl rfl rfl rfl ?_ | refine WL.no0 rfl rfl rfl rfl rfl ?_ | (refine WL.ex rfl (WO.box rfl rfl ?_); intro nb) | (refine WL.ex rfl (WO.alloc ?_); intro nb) | (apply WL.store; (exact rfl); (exact rfl); (exact atA); (exact rfl); (exact seA); (exact rpA)) | (apply WL.storeA; (exact rfl); (exact rfl); (exact atA); (exact rfl); (exact rfl); (exact rfl); (exact rpA)) | refine WG.start rfl rfl ?_ | (apply WL.ex; (exact rfl); (apply WO.buildSlice; (exact rfl); (exact rfl); (exact fpA); intro nb))) | (first | (apply WG.ex; (exact rfl); (exact rfl); (exact rfl); intro hb; (exact rqA)) | refine WG.or rfl rfl rfl ?_ | refine WG.and rfl rfl rfl ?_) | (first | (refine W.seqK fun Q hQ => ?_) | refine W.region ?_ | (refine W.blockK fun Q hQ => ?_) | refine W.skip ?_ | refine W.ret ?_ | refine W.exit ?_ | refine W.condT rfl ?_ | refine W.condF rfl ?_) | (first | refine Cont.nx (by assumption) _ _ ?_ | refine Cont.rt (by assumption) _ _ ?_ | refine Cont.ex (by assumption) _ _ _ ?_ | refine Blk.nx (by assumption) _ _ ?_ | refine Blk.ot (by assumption) _ _ ?_ | refine Blk.rt (by assumption) _ _ ?_ | refine Blk.ex (by assumption) _ _ _ rfl ?_ | refine Again.rt (by assumption) _ _ ?_ | refine Again.ex (by assumption) _ _ _ ?_ | refine Met.rt (by assumption) _ _ ?_ | refine Met.ex (by assumption) _ _ _ ?_))
    ((refine seE ?_); refine ⟨[], Keep.nil, ?_⟩)
    exact ⟨rfl, rfl⟩
theorem traceNew_any (F : Hp) : Spec Tryz.prog 77 [] F [] fun v hs => ∃ b, v = .pointer (some ⟨b, 0, none⟩) ∧ TraceO b [] hs := by
  refine Spec.enter Tryz.func77 rfl Tryz.ntmps77 rfl fun B => ?_
  repeat' (first | refine soA ?_ | refine sgA ?_ | refine sxA ?_ | refine sbA ?_ | refine fun (Q : Post) hQ => ?_ | refine fun (nb : Nat) => (?_ : WL _ _ _ _ _ _ _ _ _) | (refine WL.guard rfl rfl rfl (fun h => ?_) (fun h => ?_) <;> (try dsimp only at h)))
  refine X.pad ?_
  (refine seE ?_)
  exact ⟨[one nb (cells [.slice none 0 0] 162), Hp.none], (by (exact keA)), nb, rfl, none, 0, Hp.none, rfl, Arr.nil _ _⟩
set_option maxHeartbeats 1000000 in
theorem traceList_any (b : Nat) (xs : List IntervalV) (F : Hp) (hs : List Hp) (ht : TraceO b xs hs) (hfit : xs.length * 48 ≤ 140737488355328) :
    Spec Tryz.prog 59 [.pointer (some ⟨b, 0, none⟩)] F hs fun v hs' => ∃ A c h, v = .slice A xs.length c ∧ Arr 52 6 xs.length (xs.flatMap IntervalV.enc) A c h ∧ hs' = h :: hs := by
  obtain ⟨A, c, h, rfl, ha⟩ := ht
  have hl := flat_len IntervalV.enc 6 IntervalV.enc_len xs
  have h1c : (xs.flatMap IntervalV.enc).all (·.oneCell') = true := by
    rw [List.all_eq_true]
    intro u hu
    obtain ⟨x, _, hx⟩ := List.mem_flatMap.1 hu
    simp only [IntervalV.enc, List.mem_cons, List.not_mem_nil, or_false] at hx
    rcases hx with rfl | rfl | rfl | rfl | rfl | rfl <;> rfl
  have hrow : ∀ b', RowAt F [b', one b (cells [.slice A xs.length c] 162), h] A (xs.flatMap IntervalV.enc) := fun b' => RowAt.arr ha (by simp)
  generalize xs.flatMap IntervalV.enc = cs at *
  generalize xs.length = m at *
  refine Spec.enter Tryz.func59 rfl Tryz.ntmps59 rfl fun B => ?_
  repeat' (first | refine soA ?_ | refine sgA ?_ | refine sxA ?_ | refine sbA ?_ | refine fun (Q : Post) hQ => ?_ | refine fun (nb : Nat) => (?_ : WL _ _ _ _ _ _ _ _ _) | (refine WL.guard rfl rfl rfl (fun h => ?_) (fun h => ?_) <;> (try dsimp only at h)))
  apply WL.ex
  · exact rfl
  apply WO.makeSlice m m
  · exact rfl
  · exact rfl
  · exact rfl
  · exact rfl
  · exact Nat.le_refl _
  · exact hfit
  · omega
  · exact rfl
  intro g
  repeat' (first | refine soA ?_ | refine sgA ?_ | refine sxA ?_ | refine sbA ?_ | refine fun (Q : Post) hQ => ?_ | refine fun (nb : Nat) => (?_ : WL _ _ _ _ _ _ _ _ _) | (refine WL.guard rfl rfl rfl (fun h => ?_) (fun h => ?_) <;> (try dsimp only at h)))
  apply WL.ex
  · exact rfl
  apply WO.copy (cs := cs) (mm := m) (b := g) (o := 0)
  · exact rfl
  · exact rfl
  · exact Nat.min_self m
  · exact hl
  · exact hrow _
  · exact h1c
  · (exact rpA)
  · rw [zrow_len]; simp only [List.length_cons, List.length_nil]; omega
  have hsp : ∀ zl : List Value, zl.length = 6 → splice (zrow zl m) 0 cs = cs := fun zl hz => by
    have := zrow_len zl m
    simp [splice, List.drop_eq_nil_of_le, this, hz, hl]
  rw [hsp _ rfl]
  repeat' (first | refine soA ?_ | refine sgA ?_ | refine sxA ?_ | refine sbA ?_ | refine fun (Q : Post) hQ => ?_ | refine fun (nb : Nat) => (?_ : WL _ _ _ _ _ _ _ _ _) | (refine WL.guard rfl rfl rfl (fun h => ?_) (fun h => ?_) <;> (try dsimp only at h)))
  (refine seE ?_)
  refine ⟨[one g (cells cs 52), one b (cells [.slice A m c] 162), h], (by (exact keA)), some ⟨g, 0, none⟩, m, one g (cells cs 52), rfl, ?_, rfl⟩
  have := Arr.mk (e := 52) (sz := 6) (n := m) (c := m) (g := g) (cs := cs) (sp := []) hl (by simpa using hl) (Nat.le_refl _) (by unfold maxLen; omega)
  simpa using this
end Go.Proofs.YtflgnpidelkkpaaGreat
namespace Go.Proofs.YtflgnpidelkkpaaGreat
set_option maxRecDepth 8000
set_option maxHeartbeats 1000000
set_option linter.unusedVariables false
set_option linter.unusedSimpArgs false
attribute [local irreducible] W X WL WA WB WG WO Rn Own one splice Arr Spec WQ WH Qn
abbrev TraceC (b : Nat) (xs : List IntervalV) (h : Hp) : Prop := Thing (TraceO b xs) h
theorem addC (b : Nat) (xs : List IntervalV) (i : IntervalV) (F h : Hp) (ht : TraceC b xs h) (hfit : (xs.length + 1) * 48 ≤ 140737488355328) : Spec Tryz.prog 267 [.pointer (some ⟨b, 0, none⟩), i.val] F [h] fun v hs => ∃ h1, hs = [h1] ∧ TraceC b (addV xs i) h1 := by
  refine (Spec.obj (R' := fun _ => TraceO b (addV xs i)) (K := fun _ new => new = []) ht fun hs hr => ?_).mono fun v hs ⟨h1, new, e, t, en⟩ => ⟨h1, by rw [e, en], t⟩
  rw [List.append_nil]
  exact (traceAdd_any b xs i F hs hr hfit).mono fun v hs' t => ⟨hs', [], by simp, t, rfl⟩
theorem listC (b : Nat) (xs : List IntervalV) (F h : Hp) (ht : TraceC b xs h) (hfit : xs.length * 48 ≤ 140737488355328) : Spec Tryz.prog 59 [.pointer (some ⟨b, 0, none⟩)] F [h] fun v hs => ∃ A c h2, v = .slice A xs.length c ∧ Arr 52 6 xs.length (xs.flatMap IntervalV.enc) A c h2 ∧ hs = [h, h2] := by
  obtain ⟨hs, rfl, ha, hr⟩ := ht
  refine Spec.openC ha (Spec.shutC ?_)
  rw [List.append_nil]
  exact (traceList_any b xs F hs hr hfit).monoP fun v hs' ⟨A, c, h2, e1, e2, e3⟩ => ⟨hs ++ [h2], by rw [e3]; exact List.perm_append_comm (l₁ := [h2]), hs, [h2], rfl, fun _ => ⟨A, c, h2, e1, e2, rfl⟩⟩
theorem addV_len (xs : List IntervalV) (x : IntervalV) : (addV xs x).length ≤ xs.length + 1 := by
  rcases snoc_cases xs with rfl | ⟨ys, l, rfl⟩
  · simp [addV]
  · by_cases h : joinB l x = true
    · rw [addV_yes h]; simp
    · rw [addV_no (by simpa using h)]; simp
end Go.Proofs.YtflgnpidelkkpaaGreat
namespace Go.Proofs.YtflgnpidelkkpaaGreat
set_option maxRecDepth 8000
set_option maxHeartbeats 1000000
set_option linter.unusedVariables false
set_option linter.unusedSimpArgs false
attribute [local irreducible] W X WL WA WB WG WO Rn Own one splice Arr Spec WQ WH Qn
def befJ (a b : JobV) : Prop := a.deadline < b.deadline ∨ (a.deadline = b.deadline ∧ a.task < b.task)
end Go.Proofs.YtflgnpidelkkpaaGreat
namespace Go.Proofs.YtflgnpidelkkpaaGreat
set_option maxRecDepth 8000
set_option maxHeartbeats 1000000
set_option linter.unusedVariables false
set_option linter.unusedSimpArgs false
def OrdJ (l : List JobV) : Prop := l.Pairwise befJ
theorem ahead_bef (x y : JobV) : Go.Proofs.YtflgnpidelkkpaaGreat.ahead (toHJ x) (toHJ y) = true ↔ befJ x y := by rw [← ltJ, ltJ_iff]; exact Iff.rfl
theorem ahead_nbef (x y : JobV) : Go.Proofs.YtflgnpidelkkpaaGreat.ahead (toHJ x) (toHJ y) = false ↔ ¬ befJ x y := by rw [← ahead_bef, Bool.not_eq_true]
theorem befJ.asym {x y : JobV} (h : befJ x y) : ¬ befJ y x := by unfold befJ at *; omega
theorem befJ.tr {x y z : JobV} (h : befJ x y) (k : befJ y z) : befJ x z := by unfold befJ at *; omega
theorem befJ.tot {x y : JobV} (h : ¬ befJ x y) (k : x.task ≠ y.task) : befJ y x := by unfold befJ at *; omega
theorem OrdJ.off {l : List JobV} (h : OrdJ l) (t : Int) : OrdJ (offJ t l) := List.Pairwise.filter _ h
theorem nd_off {l : List JobV} (h : (l.map (·.task)).Nodup) (t : Int) : ((offJ t l).map (·.task)).Nodup := by
  have : ((offJ t l).map (·.task)).Sublist (l.map (·.task)) := List.Sublist.map _ (List.filter_sublist (l := l))
  exact h.sublist this
theorem srt_ord {L l' : List JobV} (hn : (L.map (·.task)).Nodup) (hO : OrdJ L) (p : l'.Perm L) (hs : SrtJ l') : l' = L := by
  refine List.Perm.eq_of_pairwise (le := fun x y => Go.Proofs.YtflgnpidelkkpaaGreat.ahead (toHJ y) (toHJ x) = false) (fun a b ha hb h1 h2 => ?_) hs (hO.imp fun h => (ahead_nbef _ _).2 h.asym) p
  rw [ahead_nbef] at h1 h2
  refine uniqJ hn (p.mem_iff.1 ha) hb ?_
  by_cases e : a.task = b.task
  · exact e
  · exact absurd (befJ.tot h2 e) h1
def lastV (L : List JobV) : Int := match L.getLast? with
  | none => 0
  | some x => x.deadline
attribute [local irreducible] W X WL WA WB WG WO Rn Own one splice Arr Spec WQ WH Qn
theorem rylistO {b : Nat} {L : List JobV} (hl : L.length * 48 ≤ 140737488355328) (hO : OrdJ L) {F : Hp} {hs : List Hp} (ho : RdyC b L hs) : Spec Tryz.prog 88 [.pointer (some ⟨b, 0, none⟩)] F hs fun v hs' => ∃ A c h, v = .slice A L.length c ∧ Arr 142 6 L.length (L.flatMap JobV.enc) A c h ∧ hs' = h :: hs :=
  (rylist_any b L hl F hs ho).mono fun v hs' ⟨l', A, c, h, e1, p, s, a, e2⟩ => by
    obtain rfl := srt_ord ho.nd hO p s
    exact ⟨A, c, h, e1, a, e2⟩
set_option maxHeartbeats 1000000 in
theorem rylastO {b : Nat} {L : List JobV} (hl : L.length * 48 ≤ 140737488355328) (hO : OrdJ L) {F : Hp} {hs : List Hp} (ho : RdyC b L hs) : Spec Tryz.prog 202 [.pointer (some ⟨b, 0, none⟩)] F hs fun v hs' => v = .int .i64 (lastV L) ∧ hs' = hs := by
  refine Spec.enter Tryz.func202 rfl Tryz.ntmps202 rfl fun B => ?_
  rcases snoc_cases L with rfl | ⟨ys, y, rfl⟩
  · skip
    repeat' (first | ((refine WL.ex rfl (WO.callA Tryz.func88 rfl (by kernel_rfl) rfl (fun G hG => rylistO (by decide) hO ho) ?_); rintro v own' ⟨A, c, h, rfl, ha, rfl⟩)) | (first | refine soA ?_ | refine sgA ?_ | refine sxA ?_ | refine sbA ?_ | refine fun (Q : Post) hQ => ?_ | refine fun (nb : Nat) => (?_ : WL _ _ _ _ _ _ _ _ _) | (refine WL.guard rfl rfl rfl (fun h => ?_) (fun h => ?_) <;> (try dsimp only at h))))
    (refine seE ?_)
    exact ⟨_, keep_tail _ _, rfl, rfl⟩
  · have hx : (ys ++ [y])[ys.length]? = some y := by simp
    have hn : (ys ++ [y]).length = ys.length + 1 := by simp
    have hv : lastV (ys ++ [y]) = y.deadline := by unfold lastV; simp
    rw [hv]
    repeat' (first | ((refine WL.ex rfl (WO.callA Tryz.func88 rfl (by kernel_rfl) rfl (fun G hG => rylistO hl hO ho) ?_); rintro v own' ⟨A, c, h, rfl, ha, rfl⟩)) | (first | refine soA ?_ | refine sgA ?_ | refine sxA ?_ | refine sbA ?_ | refine fun (Q : Post) hQ => ?_ | refine fun (nb : Nat) => (?_ : WL _ _ _ _ _ _ _ _ _) | (refine WL.guard rfl rfl rfl (fun h => ?_) (fun h => ?_) <;> (try dsimp only at h))))
    rw [hn] at ha ⊢
    obtain ⟨g, o, rfl, g1⟩ := (RowAt.arr (F := F) ha (List.mem_cons_self (l := hs))).elem 6 JobV.enc_len (by omega) ys.length y hx
    repeat' (first | ((apply WL.rd; (exact rfl); (exact Rn.cmp (b := false) rfl rfl (congrArg some (beq_eq_false_iff_ne.2 (by omega)))))) | ((apply WL.rd; (exact rfl); (exact Rn.subN rfl (by omega) rfl rfl))) | ((apply WL.rd; (exact rfl); (exact Rn.indexAddr ys.length rfl rfl rfl (by omega)))) | ((apply WL.rd; (exact rfl); (apply Rn.load; (exact rfl); (exact g1 2 _ rfl)))) | (first | refine soA ?_ | refine sgA ?_ | refine sxA ?_ | refine sbA ?_ | refine fun (Q : Post) hQ => ?_ | refine fun (nb : Nat) => (?_ : WL _ _ _ _ _ _ _ _ _) | (refine WL.guard rfl rfl rfl (fun h => ?_) (fun h => ?_) <;> (try dsimp only at h))))
    (refine seE ?_)
    exact ⟨_, keep_tail _ _, rfl, rfl⟩
end Go.Proofs.YtflgnpidelkkpaaGreat
namespace Go.Proofs.YtflgnpidelkkpaaGreat
set_option maxRecDepth 8000
set_option maxHeartbeats 1000000
set_option linter.unusedVariables false
set_option linter.unusedSimpArgs false
structure Kn where
  p : PP
  now : Int
  level : Int
  policy : Int
  naps : Bool
  tasks : List TT
  next : List Int
  used : List Int
  jobs : List JobV
  stack : List Int
  ended : Bool
  held : List HeldV
  latch : List TimerV
  timers : List TimerV
  devs : List DevV
  spent : List Int
  asleep : Bool
  state : Int
  wake : Int
  trace : List IntervalV
  meter : MeterV
  events : List EventV
structure KA where
  p : PlatV
  ch : Nat
  A1 : Option Addr
  c1 : Nat
  ts : List TaskV
  A2 : Option Addr
  c2 : Nat
  A3 : Option Addr
  c3 : Nat
  sb : Nat
  A4 : Option Addr
  c4 : Nat
  lk : Nat
  la : Nat
  ti : Nat
  A5 : Option Addr
  c5 : Nat
  A6 : Option Addr
  c6 : Nat
  tr : Nat
  A7 : Option Addr
  c7 : Nat
abbrev ptrV (b : Nat) : Value := .pointer (some ⟨b, 0, none⟩)
abbrev KM (s : Kn) (a : KA) : List Value :=
  [.slice a.p.levels.A a.p.levels.xs.length a.p.levels.c, .slice a.p.sleeps.A a.p.sleeps.xs.length a.p.sleeps.c, .slice a.p.devices.A a.p.devices.xs.length a.p.devices.c, .int .i64 a.p.idle, .int .i64 a.p.crit, .int .i64 a.p.switch, .int .i64 a.p.switchE, .int .i64 a.p.sems, .int .i64 a.p.horizon,
   .int .i64 s.now, .int .i64 s.level, .int .i64 s.policy, .bool s.naps, .chan (some a.ch), .slice a.A1 a.ts.length a.c1, .slice a.A2 s.next.length a.c2, .slice a.A3 s.used.length a.c3, ptrV a.sb, .slice a.A4 s.stack.length a.c4, .bool s.ended, ptrV a.lk, ptrV a.la, ptrV a.ti,
   .slice a.A5 s.devs.length a.c5, .slice a.A6 s.spent.length a.c6, .bool s.asleep, .int .i64 s.state, .int .i64 s.wake, ptrV a.tr, .int .i64 s.meter.run, .int .i64 s.meter.idle, .int .i64 s.meter.switch, .int .i64 s.meter.sleep, .slice a.A7 s.events.length a.c7]
abbrev unitV : Value := .agg #[]
abbrev chanO (n : Nat) (x y : Nat) : Obj := .chan 6 (Array.replicate n unitV) false x y false
def thereK (ts : List TT) : List TT := ts.filter fun t => !(t.period == 0)
structure KParts (s : Kn) (a : KA) (hP hT hM hN hU hS hK hL hA hI hD hE hR hV hC : Hp) : Prop where
  pl : a.p.pl = s.p
  plat : PlatAt hP a.p
  tasks : a.ts.map TaskV.pl = s.tasks
  hT : Arr 33 4 a.ts.length (a.ts.flatMap TaskV.enc) a.A1 a.c1 hT
  sec : ∀ t ∈ a.ts, RowAt hM [] t.sec.A (t.sec.xs.flatMap encI)
  dev : ∀ t ∈ a.ts, RowAt hM [] t.devs.A (t.devs.xs.flatMap encI)
  hN : Arr 3 1 s.next.length (s.next.flatMap encI) a.A2 a.c2 hN
  hU : Arr 3 1 s.used.length (s.used.flatMap encI) a.A3 a.c3 hU
  hS : Thing (RdyC a.sb s.jobs) hS
  hK : Arr 3 1 s.stack.length (s.stack.flatMap encI) a.A4 a.c4 hK
  hL : Thing (LockC a.lk s.held) hL
  hA : Thing (LatC a.la s.latch) hA
  hI : Thing (TimC a.ti s.timers) hI
  hD : Arr 72 2 s.devs.length (s.devs.flatMap DevV.enc) a.A5 a.c5 hD
  hE : Arr 3 1 s.spent.length (s.spent.flatMap encI) a.A6 a.c6 hE
  hR : Thing (TraceO a.tr s.trace) hR
  hV : Arr 66 4 s.events.length (s.events.flatMap EventV.enc) a.A7 a.c7 hV
  hC : ∃ x y, hC = one a.ch (chanO (thereK s.tasks).length x y)
def KerC (b : Nat) (s : Kn) (hs : List Hp) : Prop := ∃ a hP hT hM hN hU hS hK hL hA hI hD hE hR hV hC, hs = [one b (cells (KM s a) 108), hP, hT, hM, hN, hU, hS, hK, hL, hA, hI, hD, hE, hR, hV, hC] ∧ KParts s a hP hT hM hN hU hS hK hL hA hI hD hE hR hV hC
def unst (l : List JobV) : Nat := (l.filter fun j => !j.started).length
structure KOk (s : Kn) : Prop where
  crit : 0 ≤ s.p.crit ∧ s.p.crit < (s.p.levels.length : Nat)
  lev : s.p.levels.length ≤ 4
  slp : s.p.sleeps.length ≤ 3
  dvl : s.p.devices.length ≤ 3
  slow : ∀ l ∈ s.p.levels, 1 ≤ l.P ∧ l.P ≤ 256
  nt : s.tasks.length = 6
  nn : s.next.length = 6
  nu : s.used.length = 6
  nd : s.devs.length = s.p.devices.length
  ne : s.spent.length = s.p.devices.length
  lvl : 0 ≤ s.level ∧ s.level < (s.p.levels.length : Nat)
  slpd : s.asleep = true → 0 ≤ s.state ∧ s.state < (s.p.sleeps.length : Nat)
  per : ∀ t ∈ s.tasks, 0 ≤ t.period
  secl : ∀ t ∈ s.tasks, t.sec.length ≤ 3 ∧ t.devs.length ≤ 3
  devr : ∀ t ∈ s.tasks, ∀ d ∈ t.devs, 0 ≤ d ∧ d < (s.p.devices.length : Nat)
  jin : ∀ j ∈ s.jobs, 0 ≤ j.task ∧ j.task < 6
  jord : OrdJ s.jobs
  jnd : (s.jobs.map (·.task)).Nodup
  sst : ∀ x ∈ s.stack, ∃ j ∈ s.jobs, j.task = x
  stq : s.stack.length + unst s.jobs + s.latch.length ≤ 4398046511104
  hin : ∀ h ∈ s.held, 0 ≤ h.task ∧ h.task < 6
  hbd : ∀ h ∈ s.held, -1099511627776 ≤ h.left ∧ h.left ≤ 1099511627776
  hsem : ∀ h ∈ s.held, 0 ≤ h.sem ∧ h.sem < 3
  hnd : (s.held.map (·.sem)).Nodup
  lin : ∀ x ∈ s.latch, 0 ≤ x.id ∧ x.id < 6
  tin : ∀ x ∈ s.timers, 0 ≤ x.id ∧ x.id < 4
  lnd : (s.latch.map (·.id)).Nodup
  tnd : (s.timers.map (·.id)).Nodup
  secb : ∀ t ∈ s.tasks, ∀ x ∈ t.sec, 0 ≤ x ∧ x ≤ 4096
  smx : s.p.sems ≤ 3
section
variable {P : Program} {f : FuncId} {args : List Value} {F : Hp} {h0 : Hp} {r : List Hp}
theorem Spec.objK {R : List Hp → Prop} {K : Value → List Hp → Prop} (ho : Thing R h0) (h : ∀ hs, R hs → Spec P f args F (hs ++ r) fun v hs' => ∃ new, K v new ∧ hs'.Perm (hs ++ new)) : Spec P f args F (h0 :: r) fun v hs' => ∃ new, K v new ∧ hs' = h0 :: new := by
  obtain ⟨hs, rfl, ha, hr⟩ := ho
  refine Spec.openC ha (Spec.shutC ((h hs hr).monoP fun v hs' ⟨new, k, p⟩ => ⟨hs ++ new, p, hs, new, rfl, fun _ => ⟨new, k, rfl⟩⟩))
theorem Spec.objR {R : List Hp → Prop} {K : Value → Prop} (ho : Thing R h0) (h : ∀ hs, R hs → Spec P f args F hs fun v hs' => K v ∧ hs' = hs) : Spec P f args F [h0] fun v hs' => K v ∧ hs' = [h0] :=
  (Spec.objK (r := []) (K := fun v new => K v ∧ new = []) ho fun hs hr => by
    rw [List.append_nil]
    exact (h hs hr).mono fun v hs' ⟨k, e⟩ => ⟨[], ⟨k, rfl⟩, by rw [e, List.append_nil]⟩).mono fun v hs' ⟨new, ⟨k, e⟩, e2⟩ => ⟨k, by rw [e2, e]⟩
theorem Spec.objW {R : List Hp → Prop} {R' : Value → List Hp → Prop} (ho : Thing R h0) (h : ∀ hs, R hs → Spec P f args F hs fun v hs' => R' v hs') : Spec P f args F [h0] fun v hs' => ∃ h1, hs' = [h1] ∧ Thing (R' v) h1 :=
  (Spec.obj (r := []) (K := fun v new => new = []) ho fun hs hr => by
    rw [List.append_nil]
    exact (h hs hr).mono fun v hs' k => ⟨hs', [], by rw [List.append_nil], k, rfl⟩).mono fun v hs' ⟨h1, new, e, t, e2⟩ => ⟨h1, by rw [e, e2], t⟩
end
theorem CellsAt.part {F : Hp} {hs : List Hp} {b o : Nat} {l vs : List Value} {t : TypeId} (h : At F hs b (cells l t)) (hv : (l.drop o).take vs.length = vs) : CellsAt F hs b o vs :=
  CellsAt.mk h fun j v hj => by
    have hlt := (List.getElem?_eq_some_iff.1 hj).1
    rw [← hv, List.getElem?_take_of_lt hlt, List.getElem?_drop] at hj
    exact hj
def didK (s : Kn) (kind len arg task cy : Int) : Kn :=
  { s with trace := addV s.trace ⟨kind, s.now, len, arg, task, cy⟩, meter := meterAdd s.p s.meter ⟨kind, s.now, len, arg, task, cy⟩, now := w64 (s.now + len) }
def tellK (s : Kn) (kind task at_ due : Int) : Kn := { s with events := s.events ++ [⟨kind, task, at_, due⟩] }
end Go.Proofs.YtflgnpidelkkpaaGreat
namespace Go.Proofs.YtflgnpidelkkpaaGreat
set_option maxRecDepth 8000
set_option maxHeartbeats 1000000
set_option linter.unusedVariables false
set_option linter.unusedSimpArgs false
theorem WO.storeQ {P : Program} {n : Nat} {B : World} {F : Hp} {hs : List Hp} {env : Env} {ty : TypeId} {t : TypeId} {x y : Operand} {b o sz by' : Nat} {v : Value} {l l' vs : List Value} {u : TypeId} {hs' : List Hp} {K : Value → List Hp → Prop} [hz : SZ P t sz by'] (e : splice l o vs = l') (hx : ev env x = some (.pointer (some ⟨b, o, none⟩))) (hy : ev env y = some v)
    (hv : v.cells = vs.toArray) (hl : vs.length = sz) (h1c : vs.all (·.oneCell') = true) (hr : Repl hs (one b (cells l u)) (one b (cells l' u)) hs') (hin : o + vs.length ≤ l.length) (k : K undef hs') : WO P n B F (.store t x y) ty env hs K := by subst e; exact WO.storeC hx hy hv hl h1c hr hin k
theorem KM_meter (s : Kn) (a : KA) (m : MeterV) : splice (KM s a) 29 m.enc = KM { s with meter := m } a := rfl
attribute [local irreducible] W X WL WA WB WG WO Rn Own one splice Arr Spec WQ WH Qn
set_option maxHeartbeats 4000000 in
theorem did_any (b : Nat) (s : Kn) (kind len arg task cy : Int) (F : Hp) (hs : List Hp) (ho : KerC b s hs) (hf : (s.trace.length + 1) * 48 ≤ 140737488355328) : Spec Tryz.prog 242 [ptrV b, .int .i64 kind, .int .i64 len, .int .i64 arg, .int .i64 task, .int .i64 cy] F hs fun v hs' => v = .tuple #[] ∧ KerC b (didK s kind len arg task cy) hs' := by
  obtain ⟨a, hP, hT, hM, hN, hU, hS, hK, hL, hA, hI, hD, hE, hR, hV, hC, rfl, k⟩ := ho
  refine Spec.enter Tryz.func242 rfl Tryz.ntmps242 rfl fun B => ?_
  have hmt := k.pl
  repeat' (first | refine soA ?_ | refine sgA ?_ | refine sxA ?_ | refine sbA ?_ | refine fun (Q : Post) hQ => ?_ | refine fun (nb : Nat) => (?_ : WL _ _ _ _ _ _ _ _ _) | (refine WL.guard rfl rfl rfl (fun h => ?_) (fun h => ?_) <;> (try dsimp only at h)))
  refine dra [(0, []), (12, [])] [] ?_
  refine drp 6 0 1 ?_
  refine drp 6 1 3 ?_
  refine drp 6 2 7 ?_
  refine drl 6 3 0 15 ?_
  refine drl 6 4 1 31 ?_
  refine dr1 5 ?_
  refine dre 6 5 63 ?_
  (refine WO.callN Tryz.func267 rfl (by kernel_rfl) rfl (own := [hR]) (by (exact tsA)) (fun G hG hh => addC a.tr s.trace ⟨kind, s.now, len, arg, task, cy⟩ G hR k.hR hf) ?_; rintro v own' ⟨hR1, rfl, ht1⟩)
  refine ⟨piA, ?_⟩
  refine drz ?_
  repeat' (first | refine soA ?_ | refine sgA ?_ | refine sxA ?_ | refine sbA ?_ | refine fun (Q : Post) hQ => ?_ | refine fun (nb : Nat) => (?_ : WL _ _ _ _ _ _ _ _ _) | (refine WL.guard rfl rfl rfl (fun h => ?_) (fun h => ?_) <;> (try dsimp only at h)))
  refine dra [(0, [13]), (12, [])] [] ?_
  refine drp 14 0 1 ?_
  refine drp 14 1 3 ?_
  refine drp 14 2 7 ?_
  refine drp 14 3 15 ?_
  refine drl 14 4 0 31 (hy := by (exact Rn.loadS (vs := s.meter.enc) rfl (CellsAt.part At.one rfl) rfl)) ?_
  refine drp 14 5 63 ?_
  refine drp 14 6 127 ?_
  refine drp 14 7 255 ?_
  refine drl 14 8 0 511 (hy := by (exact Rn.loadS (vs := a.p.enc) rfl (CellsAt.part At.one rfl) rfl)) ?_
  refine drl 14 9 1 1023 ?_
  refine dr1 10 ?_
  refine dre 14 10 2047 ?_
  (refine WO.callN Tryz.func61 rfl (by kernel_rfl) rfl (by (exact tsA)) (fun G hG hh => hmt ▸ madd_any a.p s.meter ⟨kind, s.now, len, arg, task, cy⟩ G (k.plat.up (hh hP (by simp)))) ?_; rintro v own' ⟨rfl, rfl⟩)
  refine ⟨piA, ?_⟩
  refine drp 14 11 4095 ?_
  refine drp 14 12 8191 ?_
  refine dr1 13 ?_
  refine drf 14 13 16383 ?_
  (apply WO.storeQ (KM_meter s a (meterAdd s.p s.meter ⟨kind, s.now, len, arg, task, cy⟩)); (exact rfl); (exact rfl); (exact rfl); (exact rfl); (exact rfl); (exact rpA); (exact Nat.le_of_ble_eq_true rfl))
  refine ⟨piA, ?_⟩
  refine drz ?_
  repeat' (first | refine soA ?_ | refine sgA ?_ | refine sxA ?_ | refine sbA ?_ | refine fun (Q : Post) hQ => ?_ | refine fun (nb : Nat) => (?_ : WL _ _ _ _ _ _ _ _ _) | (refine WL.guard rfl rfl rfl (fun h => ?_) (fun h => ?_) <;> (try dsimp only at h)))
  (refine seE ?_)
  exact ⟨_, (by (exact keA)), rfl, a, hP, hT, hM, hN, hU, hS, hK, hL, hA, hI, hD, hE, hR1, hV, hC, rfl, { k with hR := ht1 }⟩
set_option maxHeartbeats 4000000 in
theorem tell_any (b : Nat) (s : Kn) (kind task at_ due : Int) (F : Hp) (hs : List Hp) (ho : KerC b s hs) (hf : (s.events.length + 1) * 32 ≤ 140737488355328) : Spec Tryz.prog 102 [ptrV b, .int .i64 kind, .int .i64 task, .int .i64 at_, .int .i64 due] F hs fun v hs' => v = .tuple #[] ∧ KerC b (tellK s kind task at_ due) hs' := by
  obtain ⟨a, hP, hT, hM, hN, hU, hS, hK, hL, hA, hI, hD, hE, hR, hV, hC, rfl, k⟩ := ho
  refine Spec.enter Tryz.func102 rfl Tryz.ntmps102 rfl fun B => ?_
  have hl : (s.events ++ [⟨kind, task, at_, due⟩] : List EventV).length = s.events.length + 1 := by simp
  repeat' (first | ((apply WL.ex; (exact rfl); (apply WO.append (h := hV) (news := (⟨kind, task, at_, due⟩ : EventV).enc) (m := 1); (exact rfl); (exact rfl); (exact tkA); (exact k.hV); (exact rfl); (decide); (exact rfl); (apply RowAt.cells; (exact atA)); (exact rfl); (omega); (omega); intro A' c' h' ha'; rw [← hl] at ha' ⊢))) | (first | refine soA ?_ | refine sgA ?_ | refine sxA ?_ | refine sbA ?_ | refine fun (Q : Post) hQ => ?_ | refine fun (nb : Nat) => (?_ : WL _ _ _ _ _ _ _ _ _) | (refine WL.guard rfl rfl rfl (fun h => ?_) (fun h => ?_) <;> (try dsimp only at h))))
  (refine seE ?_)
  have hv2 : Arr 66 4 (s.events ++ [⟨kind, task, at_, due⟩] : List EventV).length ((s.events ++ [⟨kind, task, at_, due⟩] : List EventV).flatMap EventV.enc) A' c' h' := by
    rw [List.flatMap_append]; exact ha'
  exact ⟨_, (by (exact keA)), rfl, { a with A7 := A', c7 := c' }, hP, hT, hM, hN, hU, hS, hK, hL, hA, hI, hD, hE, hR, h', hC, rfl, { k with hV := hv2 }⟩
end Go.Proofs.YtflgnpidelkkpaaGreat
namespace Go.Proofs.YtflgnpidelkkpaaGreat
set_option maxRecDepth 8000
set_option maxHeartbeats 1000000
set_option linter.unusedVariables false
set_option linter.unusedSimpArgs false
theorem KParts.tx {s : Kn} {a : KA} {hP hT hM hN hU hS hK hL hA hI hD hE hR hV hC : Hp} (k : KParts s a hP hT hM hN hU hS hK hL hA hI hD hE hR hV hC) (w : KOk s) {G : Hp} (h1 : hT.le G) (h2 : hM.le G) : TasksX G a.A1 a.ts := by
  have hl : a.ts.length = 6 := by rw [← w.nt, ← k.tasks, List.length_map]
  have hm : ∀ t ∈ a.ts, t.pl ∈ s.tasks := fun t ht => k.tasks ▸ List.mem_map.2 ⟨t, ht, rfl⟩
  refine ⟨⟨k.hT.rowX h1, fun t ht => (k.sec t ht).up h2 (by simp), by omega⟩, fun t ht => (k.dev t ht).up h2 (by simp), fun t ht => ?_, fun t ht => ?_⟩
  · have h := (w.secl _ (hm t ht)).1
    have h : t.sec.xs.length ≤ 3 := h
    omega
  · have h := (w.secl _ (hm t ht)).2
    have h : t.devs.xs.length ≤ 3 := h
    omega
theorem nd_bound : ∀ (n : Nat) (l : List Int), l.Nodup → (∀ x ∈ l, 0 ≤ x ∧ x < (n : Int)) → l.length ≤ n
  | 0, [], _, _ => Nat.le_refl _
  | 0, x :: t, _, h => by have := h x (.head _); omega
  | n + 1, l, hd, h => by
    have h1 : (l.erase (n : Int)).length ≤ n := nd_bound n (l.erase (n : Int)) (hd.erase _) fun x hx => by
      have h2 := h x (List.mem_of_mem_erase hx)
      have h3 : x ≠ (n : Int) := fun e => by subst e; exact hd.not_mem_erase hx
      omega
    by_cases hm : (n : Int) ∈ l
    · rw [List.length_erase_of_mem hm] at h1; omega
    · rw [List.erase_of_not_mem hm] at h1; omega
theorem OrdJ.nodup_le {l : List JobV} (h : OrdJ l) (h2 : (l.map (·.task)).Nodup) (h3 : ∀ j ∈ l, 0 ≤ j.task ∧ j.task < 6) : l.length ≤ 6 := by
  have := nd_bound 6 (l.map (·.task)) h2 fun x hx => by
    obtain ⟨j, hj, rfl⟩ := List.mem_map.1 hx
    exact h3 j hj
  simpa using this
theorem KOk.stk {s : Kn} (w : KOk s) : s.stack.length ≤ 4398046511104 := by have := w.stq; omega
theorem nd_ids {α : Type} (f : α → Int) (n : Nat) {l : List α} (h : (l.map f).Nodup) (hb : ∀ x ∈ l, 0 ≤ f x ∧ f x < (n : Int)) : l.length ≤ n := by
  have := nd_bound n (l.map f) h fun x hx => by
    obtain ⟨j, hj, rfl⟩ := List.mem_map.1 hx
    exact hb j hj
  simpa using this
theorem KOk.hlen {s : Kn} (w : KOk s) : s.held.length ≤ 3 := nd_ids HeldV.sem 3 w.hnd w.hsem
theorem KOk.llen {s : Kn} (w : KOk s) : s.latch.length ≤ 6 := nd_ids TimerV.id 6 w.lnd w.lin
theorem KOk.tlen4 {s : Kn} (w : KOk s) : s.timers.length ≤ 4 := nd_ids TimerV.id 4 w.tnd w.tin
def lowP (ts : List TT) (l : List HeldV) : Int := l.foldl (fun least x => if ceilP ts x.sem < least then ceilP ts x.sem else least) 1099511627776
theorem lowT_pl (ts : List TaskV) (l : List HeldV) : lowT ts l = lowP (ts.map TaskV.pl) l := by
  unfold lowT lowP
  congr 1
  funext least x
  unfold lowF
  rw [ceilT_pl]
def whoK (s : Kn) : Int × Bool := chooseV s.tasks s.jobs s.stack (lowP s.tasks s.held)
def hasK (s : Kn) (n : Int) : Bool := decide (0 ≤ n) && (decide (n < (s.tasks.length : Nat)) && decide (0 < periodV s.tasks n))
attribute [local irreducible] W X WL WA WB WG WO Rn Own one splice Arr Spec WQ WH Qn
theorem rylistC {b : Nat} {L : List JobV} {h0 : Hp} (hl : L.length * 48 ≤ 140737488355328) (hO : OrdJ L) {F : Hp} (ho : Thing (RdyC b L) h0) : Spec Tryz.prog 88 [ptrV b] F [h0] fun v hs' => ∃ A c h, v = .slice A L.length c ∧ Arr 142 6 L.length (L.flatMap JobV.enc) A c h ∧ hs' = [h0, h] :=
  (Spec.objK (r := []) (K := fun v new => ∃ A c h, v = .slice A L.length c ∧ Arr 142 6 L.length (L.flatMap JobV.enc) A c h ∧ new = [h]) ho fun hs hr => by
    rw [List.append_nil]
    exact (rylistO hl hO hr).mono fun v hs' ⟨A, c, h, e1, e2, e3⟩ => ⟨[h], ⟨A, c, h, e1, e2, rfl⟩, by rw [e3]; exact List.perm_append_comm (l₁ := [h]) (l₂ := hs)⟩).mono fun v hs' ⟨new, ⟨A, c, h, e1, e2, e3⟩, e4⟩ => ⟨A, c, h, e1, e2, by rw [e4, e3]⟩
set_option maxHeartbeats 4000000 in
theorem who_any (b : Nat) (s : Kn) (F : Hp) (hs : List Hp) (ho : KerC b s hs) (w : KOk s) : Spec Tryz.prog 155 [ptrV b] F hs fun v hs' => v = .tuple #[.int .i64 (whoK s).1, .bool (whoK s).2] ∧ hs' = hs := by
  obtain ⟨a, hP, hT, hM, hN, hU, hS, hK, hL, hA, hI, hD, hE, hR, hV, hC, rfl, k⟩ := ho
  refine Spec.enter Tryz.func155 rfl Tryz.ntmps155 rfl fun B => ?_
  have hjl := w.jord.nodup_le w.jnd w.jin
  have hst := w.stk
  have hhl := w.hlen
  have hlow := lowT_pl a.ts s.held
  have htk := k.tasks
  rw [htk] at hlow
  repeat' (first | refine soA ?_ | refine sgA ?_ | refine sxA ?_ | refine sbA ?_ | refine fun (Q : Post) hQ => ?_ | refine fun (nb : Nat) => (?_ : WL _ _ _ _ _ _ _ _ _) | (refine WL.guard rfl rfl rfl (fun h => ?_) (fun h => ?_) <;> (try dsimp only at h)))
  refine dra [(0, [])] [] ?_
  refine drp 27 0 1 ?_
  refine drp 27 1 3 ?_
  refine drp 27 2 7 ?_
  refine drl 27 3 0 15 ?_
  refine drp 27 4 31 ?_
  refine drp 27 5 63 ?_
  refine drp 27 6 127 ?_
  refine drl 27 7 0 255 ?_
  refine drp 27 9 767 ?_
  refine drp 27 10 1791 ?_
  refine drp 27 11 3839 ?_
  refine drl 27 12 0 7935 ?_
  refine drp 27 13 16127 ?_
  refine drp 27 14 32511 ?_
  refine drp 27 15 65279 ?_
  refine drl 27 16 0 130815 ?_
  refine drp 27 17 261887 ?_
  refine drp 27 18 524031 ?_
  refine drp 27 19 1048319 ?_
  refine drl 27 20 0 2096895 ?_
  refine dr1 8 ?_
  refine dre 27 8 2097151 ?_
  (refine WO.callN Tryz.func88 rfl (by kernel_rfl) rfl (own := [hS]) (by (exact tsA)) (fun G hG hh => rylistC (by omega) w.jord k.hS) ?_; rintro v own' ⟨AJ, cJ, hJ, rfl, aJ, rfl⟩)
  refine ⟨piA, ?_⟩
  refine dr1 21 ?_
  refine dre 27 21 4194303 ?_
  (refine WO.callN Tryz.func210 rfl (by kernel_rfl) rfl (own := [hL]) (by (exact tsA)) (fun G hG hh => Spec.objR k.hL fun hs hr => hlow ▸ lkceil_any a.lk s.held a.A1 a.c1 a.ts G hs (k.tx w (hh hT (by simp)) (hh hM (by simp))).at_ hr (by omega)) ?_; rintro v own' ⟨rfl, rfl⟩)
  refine ⟨piA, ?_⟩
  refine dr1 22 ?_
  refine dre 27 22 8388607 ?_
  (refine WO.callN Tryz.func209 rfl (by kernel_rfl) rfl (by (exact tsA)) (fun G hG hh => htk ▸ choose_any a.A1 a.c1 a.ts AJ cJ s.jobs a.A4 a.c4 s.stack (lowP s.tasks s.held) G (k.tx w (hh hT (by simp)) (hh hM (by simp))).at_ (aJ.rowX (hh hJ (by simp))) (k.hK.rowX (hh hK (by simp))) (by omega)) ?_; rintro v own' ⟨rfl, rfl⟩)
  refine ⟨piA, ?_⟩
  refine drp 27 23 16777215 ?_
  refine drp 27 24 33554431 ?_
  refine drp 27 25 67108863 ?_
  refine drp 27 26 134217727 ?_
  refine drz ?_
  repeat' (first | refine soA ?_ | refine sgA ?_ | refine sxA ?_ | refine sbA ?_ | refine fun (Q : Post) hQ => ?_ | refine fun (nb : Nat) => (?_ : WL _ _ _ _ _ _ _ _ _) | (refine WL.guard rfl rfl rfl (fun h => ?_) (fun h => ?_) <;> (try dsimp only at h)))
  (refine seE ?_)
  exact ⟨_, (by (exact keA)), rfl, rfl⟩
end Go.Proofs.YtflgnpidelkkpaaGreat
