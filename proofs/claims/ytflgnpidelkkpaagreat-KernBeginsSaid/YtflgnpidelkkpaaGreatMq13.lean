/- part 13 of the proof: contracts of the functions that the law reaches, and plain laws. -/
import Derived.Test.YtflgnpidelkkpaaGreatMq7
import Derived.Test.YtflgnpidelkkpaaGreatMq10
import Derived.Test.YtflgnpidelkkpaaGreatMq12
namespace Go.Proofs.YtflgnpidelkkpaaGreat
set_option maxRecDepth 8000
set_option maxHeartbeats 1000000
set_option linter.unusedVariables false
set_option linter.unusedSimpArgs false
theorem Rn.field {P : Program} {F : Hp} {hs : List Hp} {ty : TypeId} {env : Env} {s f t off : Nat} {x : Operand} {vs : List Value} {v : Value} [hf : FO P s f t off] [hn : NA P t] (hx : ev env x = some (.agg vs.toArray)) (hv : vs[off]? = some v) : Rn P F hs (.field s x f) ty env v := fun o h1 h2 n B a w he ho => by
  have h := hf.eq
  unfold fieldOf at h
  split at h
  · next fs hu =>
    cases hd : fs[f]? with
    | none => rw [hd] at h; cases h
    | some d =>
      rw [hd] at h
      simp only [Option.bind_some] at h
      split at h
      · cases h
      · injection h with h; injection h with e1 e2
        subst e1; subst e2
        unfold execOp
        simp only [h1, he.ev hx]
        have hp : (part d.type vs.toArray d.offset).run P w = .ok v w := run_partCell hn.eq (by simpa using hv) w
        simp [Instr.field, Sem.run_bind, run_underlying hu, hd, asAgg, hp]
      · cases h
  · cases h
def costV (s : SleepV) (stay : Int) : Int := w64 (w64 (s.enterE + s.exitE) + w64 (s.power * maxV (w64 (w64 (stay - s.enter) - s.exit)) 0))
def betterB (sl : List SleepV) (stay : Int) (b : Int × Bool) (s : SleepV) : Bool := decide (s.even ≤ stay) && (!b.2 || match sl[b.1.toNat]? with | some q => decide (costV s stay < costV q stay) | none => false)
def bestF (sl : List SleepV) (stay : Int) (b : Int × Bool) (k : Nat) : Int × Bool := match sl[k]? with
  | none => b
  | some s => if betterB sl stay b s = true then ((k : Int), true) else b
def bestV (sl : List SleepV) (stay : Int) : Int × Bool := (List.range sl.length).foldl (bestF sl stay) (0, false)
theorem bestF_in (sl : List SleepV) (stay : Int) : ∀ k, k ≤ sl.length → ((List.range k).foldl (bestF sl stay) (0, false)).2 = true → ∃ m : Nat, ((List.range k).foldl (bestF sl stay) (0, false)).1 = m ∧ m < k
  | 0, _, h => by cases h
  | k + 1, hk, h => by
    rw [foldl_range_succ] at h ⊢
    have ih := bestF_in sl stay k (by omega)
    revert h ih
    generalize (List.range k).foldl (bestF sl stay) (0, false) = b
    intro h ih
    unfold bestF at h ⊢
    split at h
    · obtain ⟨m, h1, h2⟩ := ih h; exact ⟨m, h1, by omega⟩
    · split at h
      · next hc => rw [if_pos hc]; exact ⟨k, rfl, by omega⟩
      · next hc => rw [if_neg hc]; obtain ⟨m, h1, h2⟩ := ih h; exact ⟨m, h1, by omega⟩
def jobNewV (task : Int) (t : TT) (release cycles : Int) : JobV := ⟨task, release, w64 (release + t.period), t.cycles, cycles, false⟩
def quantaJ (p : PP) (j : JobV) : Int := if j.started = true then w64 (w64 (maxV j.left 0 * levP p 0) + p.switch) else w64 (w64 (w64 (maxV j.left 0 * levP p 0) + p.switch) + p.switch)
def periodV (ts : List TT) (n : Int) : Int := if n < 0 ∨ (ts.length : Int) ≤ n then 0 else match ts[n.toNat]? with | some t => t.period | none => 0
def chooseV (ts : List TT) (l : List JobV) (stack : List Int) (ceiling : Int) : Int × Bool := match l with
  | [] => (0, false)
  | j :: _ => if j.started = true ∨ periodV ts j.task < ceiling ∨ stack = [] then (j.task, true) else (stack.getLastD 0, true)
def limitV (p : PP) (policy static : Int) : Int := if policy = 1 ∨ policy = 3 then minV (maxV static 0) p.crit else if policy = 2 then p.crit else 0
def needV (p : PP) (left level n : Int) : Int := if n = level then w64 (left * w64 (levP p n - levP p 0)) else w64 (w64 (left * w64 (levP p n - levP p 0)) + p.switch)
def fastF (p : PP) (left slack level : Int) (best : Int) (i : Nat) : Int := if wholeV (needV p left level (i + 1 : Nat)) ≤ slack then ((i + 1 : Nat) : Int) else best
def fastV (p : PP) (policy static left slack level : Int) : Int := (List.range (limitV p policy static).toNat).foldl (fastF p left slack level) 0
attribute [local irreducible] W X WL WA WB WG WO Rn Own one splice Arr Spec WQ WH Qn
theorem cost_any (s : SleepV) (stay : Int) (F : Hp) : Spec Tryz.prog 277 [.agg s.enc.toArray, .int .i64 stay] F [] fun v hs => v = .int .i64 (costV s stay) ∧ hs = [] := by
  refine Spec.enter Tryz.func277 rfl Tryz.ntmps277 rfl fun B => ?_
  repeat' (first | refine sqA ?_ | refine soA ?_ | refine sgA ?_ | refine sxA ?_ | refine sbA ?_ | refine suA ?_ | refine fun (Q : Post) hQ => ?_ | refine fun (nb : Nat) => (?_ : WL _ _ _ _ _ _ _ _ _) | (refine WL.guard rfl rfl rfl (fun h => ?_) (fun h => ?_) <;> (try dsimp only at h)) | (refine WQ.guard rfl rfl rfl (fun h => ?_) (fun h => ?_) <;> (try dsimp only at h)))
  ((refine seE ?_); refine ⟨[], Keep.nil, ?_⟩)
  exact ⟨rfl, rfl⟩
theorem jobNew_any (task : Int) (t : TaskV) (release cycles : Int) (F : Hp) : Spec Tryz.prog 100 [.int .i64 task, .agg t.enc.toArray, .int .i64 release, .int .i64 cycles] F [] fun v hs => v = .agg (jobNewV task t.pl release cycles).enc.toArray ∧ hs = [] := by
  refine Spec.enter Tryz.func100 rfl Tryz.ntmps100 rfl fun B => ?_
  repeat' (first | refine soA ?_ | refine sgA ?_ | refine sxA ?_ | refine sbA ?_ | refine fun (Q : Post) hQ => ?_ | refine fun (nb : Nat) => (?_ : WL _ _ _ _ _ _ _ _ _) | (refine WL.guard rfl rfl rfl (fun h => ?_) (fun h => ?_) <;> (try dsimp only at h)))
  ((refine seE ?_); refine ⟨[], Keep.nil, ?_⟩)
  exact ⟨rfl, rfl⟩
theorem quantaJ_any (p : PlatV) (j : JobV) (F : Hp) (hp : PlatAt F p) (h0 : 0 < p.levels.xs.length) : Spec Tryz.prog 293 [.agg p.enc.toArray, .agg j.enc.toArray] F [] fun v hs => v = .int .i64 (quantaJ p.pl j) ∧ hs = [] := by
  refine Spec.enter Tryz.func293 rfl Tryz.ntmps293 rfl fun B => ?_
  obtain ⟨l, hl⟩ : ∃ l, p.levels.xs[0]? = some l := ⟨_, List.getElem?_eq_getElem (by simpa using h0)⟩
  obtain ⟨g, o, eA, g1⟩ := hp.levels.elem 2 (fun _ => rfl) (by omega) 0 l hl
  have hv : levP p.pl 0 = l.P := levP_at (n := 0) hl
  cases hs : j.started with
  | true =>
    repeat' (first | ((apply WQ.rd; (exact rfl); apply Rn.q; (exact Rn.indexAddrE 0 eA rfl rfl (by first | rfl | omega) (by first | assumption | omega)))) | ((apply WQ.rd; (exact rfl); apply Rn.q; (apply Rn.load; (exact rfl); (exact (CellsAt.weak g1 (by simp)) 0 _ rfl)))) | ((apply WL.rd; (exact rfl); (apply Rn.load; (exact rfl); apply CellAt.mk; (exact atA); (exact congrArg (fun b => some (Value.bool b)) hs)))) | (first | refine sqA ?_ | refine soA ?_ | refine sgA ?_ | refine sxA ?_ | refine sbA ?_ | refine suA ?_ | refine fun (Q : Post) hQ => ?_ | refine fun (nb : Nat) => (?_ : WL _ _ _ _ _ _ _ _ _) | (refine WL.guard rfl rfl rfl (fun h => ?_) (fun h => ?_) <;> (try dsimp only at h)) | (refine WQ.guard rfl rfl rfl (fun h => ?_) (fun h => ?_) <;> (try dsimp only at h))))
    ((refine seE ?_); refine ⟨[], Keep.nil, ?_⟩)
    exact ⟨by rw [quantaJ, if_pos hs, hv]; rfl, rfl⟩
  | false =>
    repeat' (first | ((apply WQ.rd; (exact rfl); apply Rn.q; (exact Rn.indexAddrE 0 eA rfl rfl (by first | rfl | omega) (by first | assumption | omega)))) | ((apply WQ.rd; (exact rfl); apply Rn.q; (apply Rn.load; (exact rfl); (exact (CellsAt.weak g1 (by simp)) 0 _ rfl)))) | ((apply WL.rd; (exact rfl); (apply Rn.load; (exact rfl); apply CellAt.mk; (exact atA); (exact congrArg (fun b => some (Value.bool b)) hs)))) | (first | refine sqA ?_ | refine soA ?_ | refine sgA ?_ | refine sxA ?_ | refine sbA ?_ | refine suA ?_ | refine fun (Q : Post) hQ => ?_ | refine fun (nb : Nat) => (?_ : WL _ _ _ _ _ _ _ _ _) | (refine WL.guard rfl rfl rfl (fun h => ?_) (fun h => ?_) <;> (try dsimp only at h)) | (refine WQ.guard rfl rfl rfl (fun h => ?_) (fun h => ?_) <;> (try dsimp only at h))))
    ((refine seE ?_); refine ⟨[], Keep.nil, ?_⟩)
    have hq : quantaJ p.pl j = w64 (w64 (w64 (maxV j.left 0 * levP p.pl 0) + p.pl.switch) + p.pl.switch) := if_neg (by rw [hs]; decide)
    exact ⟨by rw [hq, hv]; rfl, rfl⟩
theorem period_any (A1 : Option Addr) (c1 : Nat) (ts : List TaskV) (n : Int) (F : Hp) (h1 : TasksAt F A1 ts) : Spec Tryz.prog 250 [.slice A1 ts.length c1, .int .i64 n] F [] fun v hs => v = .int .i64 (periodV (ts.map TaskV.pl) n) ∧ hs = [] := by
  refine Spec.enter Tryz.func250 rfl Tryz.ntmps250 rfl fun B => ?_
  repeat' (first | refine soA ?_ | refine sgA ?_ | refine sxA ?_ | refine sbA ?_ | refine fun (Q : Post) hQ => ?_ | refine fun (nb : Nat) => (?_ : WL _ _ _ _ _ _ _ _ _) | (refine WL.guard rfl rfl rfl (fun h => ?_) (fun h => ?_) <;> (try dsimp only at h)))
  refine W.cond rfl (fun h => ?_) (fun h => ?_)
  · have h' : n < 0 ∨ ((ts.map TaskV.pl).length : Int) ≤ n := by simpa using h
    repeat' (first | refine soA ?_ | refine sgA ?_ | refine sxA ?_ | refine sbA ?_ | refine fun (Q : Post) hQ => ?_ | refine fun (nb : Nat) => (?_ : WL _ _ _ _ _ _ _ _ _) | (refine WL.guard rfl rfl rfl (fun h => ?_) (fun h => ?_) <;> (try dsimp only at h)))
    ((refine seE ?_); refine ⟨[], Keep.nil, ?_⟩)
    exact ⟨by rw [periodV, if_pos h'], rfl⟩
  · have h' : ¬ (n < 0 ∨ ((ts.map TaskV.pl).length : Int) ≤ n) := by simpa using h
    have h2 : ¬ (n < 0 ∨ (ts.length : Int) ≤ n) := by simpa using h
    obtain ⟨m, rfl⟩ : ∃ m : Nat, n = m := ⟨n.toNat, by omega⟩
    have hlt : m < ts.length := by omega
    obtain ⟨t, ht⟩ : ∃ t, ts[m]? = some t := ⟨_, List.getElem?_eq_getElem (by simpa using hlt)⟩
    obtain ⟨g, o, eA, g1⟩ := h1.row.elem 4 (fun _ => rfl) (by omega) m t ht
    repeat' (first | ((apply WL.rd; (exact rfl); (exact Rn.indexAddrE m eA rfl rfl (by first | rfl | omega) (by first | assumption | omega)))) | ((apply WL.rd; (exact rfl); (apply Rn.load; (exact rfl); (exact (CellsAt.weak g1 (by simp)) 0 _ rfl)))) | (first | refine soA ?_ | refine sgA ?_ | refine sxA ?_ | refine sbA ?_ | refine fun (Q : Post) hQ => ?_ | refine fun (nb : Nat) => (?_ : WL _ _ _ _ _ _ _ _ _) | (refine WL.guard rfl rfl rfl (fun h => ?_) (fun h => ?_) <;> (try dsimp only at h))))
    ((refine seE ?_); refine ⟨[], Keep.nil, ?_⟩)
    exact ⟨by rw [periodV, if_neg h', Int.toNat_natCast, mapT_get ht]; rfl, rfl⟩
set_option maxHeartbeats 2000000 in
theorem choose_any (A1 : Option Addr) (c1 : Nat) (ts : List TaskV) (A2 : Option Addr) (c2 : Nat) (js : List JobV) (A3 : Option Addr) (c3 : Nat) (st : List Int) (ceiling : Int) (F : Hp) (h1 : TasksAt F A1 ts) (h2 : RowAt F [] A2 (js.flatMap JobV.enc)) (h3 : RowAt F [] A3 (st.flatMap encI)) (hst : st.length * 8 ≤ 140737488355328) :
    Spec Tryz.prog 209 [.slice A1 ts.length c1, .slice A2 js.length c2, .slice A3 st.length c3, .int .i64 ceiling] F [] fun v hs => v = .tuple #[.int .i64 (chooseV (ts.map TaskV.pl) js st ceiling).1, .bool (chooseV (ts.map TaskV.pl) js st ceiling).2] ∧ hs = [] := by
  refine Spec.enter Tryz.func209 rfl Tryz.ntmps209 rfl fun B => ?_
  cases js with
  | nil =>
    repeat' (first | refine soA ?_ | refine sgA ?_ | refine sxA ?_ | refine sbA ?_ | refine fun (Q : Post) hQ => ?_ | refine fun (nb : Nat) => (?_ : WL _ _ _ _ _ _ _ _ _) | (refine WL.guard rfl rfl rfl (fun h => ?_) (fun h => ?_) <;> (try dsimp only at h)))
    ((refine seE ?_); refine ⟨[], Keep.nil, ?_⟩)
    exact ⟨rfl, rfl⟩
  | cons j t =>
    obtain ⟨g, o, eA, g1⟩ := h2.elem 6 (fun _ => rfl) (by omega) 0 j rfl
    have hn : (j :: t).length = t.length + 1 := rfl
    rw [hn]
    repeat' (first | ((refine W.region (id := 4) (WL.ofQ ?_))) | ((apply WL.rd; (exact rfl); (exact Rn.cmp (b := false) rfl rfl (congrArg some (beq_eq_false_iff_ne.2 (by omega)))))) | ((apply WL.rd; (exact rfl); (exact Rn.indexAddrE 0 eA rfl rfl rfl (by omega)))) | ((apply WL.rd; (exact rfl); (apply Rn.loadS; (exact rfl); (exact (CellsAt.weak g1 (by simp))); (exact rfl)))) | ((apply WH.ex; (exact rfl); (exact rfl); (exact rfl); intro hb; (refine Qn.call Tryz.func250 rfl (by kernel_rfl) rfl (by (exact tsA)) (fun G hG hh => period_any A1 c1 ts j.task G (h1.up hG))))) | (first | refine sqA ?_ | refine soA ?_ | refine sgA ?_ | refine sxA ?_ | refine sbA ?_ | refine suA ?_ | refine fun (Q : Post) hQ => ?_ | refine fun (nb : Nat) => (?_ : WL _ _ _ _ _ _ _ _ _) | (refine WL.guard rfl rfl rfl (fun h => ?_) (fun h => ?_) <;> (try dsimp only at h)) | (refine WQ.guard rfl rfl rfl (fun h => ?_) (fun h => ?_) <;> (try dsimp only at h))))
    refine W.cond rfl (fun h => ?_) (fun h => ?_)
    · have h' : j.started = true ∨ periodV (ts.map TaskV.pl) j.task < ceiling ∨ st = [] := by
        have : (j.started = true ∨ periodV (ts.map TaskV.pl) j.task < ceiling) ∨ st.length = 0 := by
          simp only [Bool.or_eq_true, decide_eq_true_eq, beq_iff_eq] at h
          rcases h with h | h
          · exact .inl h
          · exact .inr (by omega)
        rcases this with (a | a) | a
        · exact .inl a
        · exact .inr (.inl a)
        · exact .inr (.inr (List.length_eq_zero_iff.1 a))
      repeat' (first | refine soA ?_ | refine sgA ?_ | refine sxA ?_ | refine sbA ?_ | refine fun (Q : Post) hQ => ?_ | refine fun (nb : Nat) => (?_ : WL _ _ _ _ _ _ _ _ _) | (refine WL.guard rfl rfl rfl (fun h => ?_) (fun h => ?_) <;> (try dsimp only at h)))
      ((refine seE ?_); refine ⟨[], Keep.nil, ?_⟩)
      exact ⟨by rw [chooseV, if_pos h'], rfl⟩
    · have h' : ¬ (j.started = true ∨ periodV (ts.map TaskV.pl) j.task < ceiling ∨ st = []) := by
        rintro (a | a | a)
        · rw [a] at h; simp at h
        · rw [decide_eq_true a] at h; simp at h
        · subst a; simp at h
      rcases snoc_cases st with rfl | ⟨ys, y, rfl⟩
      · exact absurd (.inr (.inr rfl)) h'
      · have hx : (ys ++ [y])[ys.length]? = some y := by simp
        have hl : (ys ++ [y]).length = ys.length + 1 := by simp
        obtain ⟨g2, o2, eA2, g3⟩ := ints_cell h3 hx
        have hr : chooseV (ts.map TaskV.pl) (j :: t) (ys ++ [y]) ceiling = (y, true) := by rw [chooseV, if_neg h']; simp
        rw [hl] at hst
        repeat' (first | ((apply WL.rd; (exact rfl); (exact Rn.indexAddrE ys.length eA2 rfl rfl (by omega) (by omega)))) | ((apply WL.rd; (exact rfl); (apply Rn.load; (exact rfl); (exact (CellsAt.weak g3 (by simp)) 0 _ rfl)))) | (first | refine soA ?_ | refine sgA ?_ | refine sxA ?_ | refine sbA ?_ | refine fun (Q : Post) hQ => ?_ | refine fun (nb : Nat) => (?_ : WL _ _ _ _ _ _ _ _ _) | (refine WL.guard rfl rfl rfl (fun h => ?_) (fun h => ?_) <;> (try dsimp only at h))))
        ((refine seE ?_); refine ⟨[], Keep.nil, ?_⟩)
        exact ⟨by rw [hr], rfl⟩
end Go.Proofs.YtflgnpidelkkpaaGreat
namespace Go.Proofs.YtflgnpidelkkpaaGreat
set_option maxRecDepth 8000
set_option maxHeartbeats 1000000
set_option linter.unusedVariables false
set_option linter.unusedSimpArgs false
structure SV where
  p : PlatV
  A1 : Option Addr
  c1 : Nat
  ts : List TaskV
  A2 : Option Addr
  c2 : Nat
  next : List Int
  A3 : Option Addr
  c3 : Nat
  js : List JobV
  A4 : Option Addr
  c4 : Nat
  held : List HeldV
  now : Int
def SV.tl (v : SV) : List Value := [.slice v.A1 v.ts.length v.c1, .slice v.A2 v.next.length v.c2, .slice v.A3 v.js.length v.c3, .slice v.A4 v.held.length v.c4, .int .i64 v.now]
def SV.cells (v : SV) : List Value := v.p.enc ++ v.tl
structure SVok (F : Hp) (v : SV) : Prop where
  plat : PlatAt F v.p
  crit : 0 ≤ v.p.crit ∧ v.p.crit < (v.p.levels.xs.length : Nat)
  lev : v.p.levels.xs.length ≤ 4
  tasks : TasksX F v.A1 v.ts
  next : RowAt F [] v.A2 (v.next.flatMap encI)
  nlen : v.next.length = v.ts.length
  jobs : RowAt F [] v.A3 (v.js.flatMap JobV.enc)
  held : RowAt F [] v.A4 (v.held.flatMap HeldV.enc)
  hin : ∀ h ∈ v.held, 0 ≤ h.task ∧ h.task < (v.ts.length : Nat)
  jfit : v.js.length * 48 ≤ 140737488355328
  hfit : v.held.length * 24 ≤ 140737488355328
theorem SVok.up {F G : Hp} {v : SV} (h : SVok F v) (hG : F.le G) : SVok G v :=
  ⟨h.plat.up hG, h.crit, h.lev, h.tasks.up hG, h.next.up hG (by simp), h.nlen, h.jobs.up hG (by simp), h.held.up hG (by simp), h.hin, h.jfit, h.hfit⟩
structure SVAt (F : Hp) (vb : Nat) (v : SV) : Prop where
  blk : F.get vb = some (Go.Proofs.YtflgnpidelkkpaaGreat.cells v.cells 290)
  ok : SVok F v
theorem SVAt.up {F G : Hp} {vb : Nat} {v : SV} (h : SVAt F vb v) (hG : F.le G) : SVAt G vb v := ⟨hG _ _ h.blk, h.ok.up hG⟩
theorem SVAt.plc {F : Hp} {vb : Nat} {v : SV} (h : SVAt F vb v) : CellsAt F [] vb 0 v.p.enc := CellsAt.mk (At.ro h.blk) fun j u hj => by
  rw [Nat.zero_add, SV.cells, List.getElem?_append_left (List.getElem?_eq_some_iff.1 hj).1]; exact hj
def fromV (next : List Int) (n : Nat) (now : Int) : Int := maxV now (next.getD n 0)
def deadV (js : List JobV) (n : Int) : Option Int := (js.find? fun j => j.task == n).map (·.deadline)
def mayV (ts : List TT) (next : List Int) (js : List JobV) (now : Int) (n : Nat) (t : TT) (at_ : Int) : Bool := (match deadV js n with | some d => decide (d ≤ at_) | none => false) || decide (w64 (fromV next n now + t.period) ≤ at_)
def blocksB (ts : List TT) (next : List Int) (js : List JobV) (now : Int) (h : HeldV) (at_ : Int) (n : Nat) : Bool := match ts[n]? with
  | none => false
  | some t => decide (0 < t.period) && decide (t.period < periodV ts h.task) && decide (ceilP ts h.sem ≤ t.period) && mayV ts next js now n t at_
def holdsV (p : PP) (ts : List TT) (next : List Int) (js : List JobV) (now : Int) (h : HeldV) (at_ : Int) : Int :=
  if (List.range ts.length).any (blocksB ts next js now h at_) = true then w64 (maxV h.left 0 * levP p p.crit) else 0
def hindF (p : PP) (ts : List TT) (next : List Int) (js : List JobV) (now at_ : Int) (most : Int) (h : HeldV) : Int := match deadV js h.task with
  | some d => if at_ < d then maxV most (holdsV p ts next js now h at_) else most
  | none => most
def hindV (p : PP) (ts : List TT) (next : List Int) (js : List JobV) (held : List HeldV) (now at_ : Int) : Int := held.foldl (hindF p ts next js now at_) 0
def atJ (p : PP) (at_ : Int) (n : Int) (j : JobV) : Int := if j.deadline ≤ at_ then w64 (n - quantaJ p j) else n
def atT (p : PP) (ts : List TT) (next : List Int) (now at_ : Int) (s : Int) (n : Nat) : Int := match ts[n]? with
  | none => s
  | some t => if 0 < t.period then w64 (s - timesV (partV p t 0) (w64 (at_ - fromV next n now))) else s
def atV (p : PP) (ts : List TT) (next : List Int) (js : List JobV) (held : List HeldV) (now at_ : Int) : Int :=
  (List.range ts.length).foldl (atT p ts next now at_) (wholeV (js.foldl (atJ p at_) (w64 (w64 (at_ - now) - hindV p ts next js held now at_))))
def momT (ts : List TT) (next : List Int) (now : Int) (l : List Int) (n : Nat) : List Int := match ts[n]? with
  | none => l
  | some t => if 0 < t.period then l ++ [w64 (fromV next n now + t.period)] else l
def momV (ts : List TT) (next : List Int) (js : List JobV) (now : Int) : List Int := (List.range ts.length).foldl (momT ts next now) (js.map (·.deadline))
def leastF (p : PP) (ts : List TT) (next : List Int) (js : List JobV) (held : List HeldV) (now first : Int) (s m : Int) : Int := if first ≤ m then minV s (atV p ts next js held now m) else s
def leastV (p : PP) (ts : List TT) (next : List Int) (js : List JobV) (held : List HeldV) (now first : Int) : Int := (momV ts next js now).foldl (leastF p ts next js held now first) (wholeV 1073741824)
attribute [local irreducible] W X WL WA WB WG WO Rn Own one splice Arr Spec WQ WH Qn
theorem sfrom_any (vb : Nat) (v : SV) (n : Nat) (F : Hp) (hv : SVAt F vb v) (hn : n < v.ts.length) : Spec Tryz.prog 290 [.pointer (some ⟨vb, 0, none⟩), .int .i64 (n : Nat)] F [] fun u hs => u = .int .i64 (fromV v.next n v.now) ∧ hs = [] := by
  refine Spec.enter Tryz.func290 rfl Tryz.ntmps290 rfl fun B => ?_
  have hb := hv.blk
  have hnl := hv.ok.nlen
  obtain ⟨x, hx⟩ : ∃ x, v.next[n]? = some x := ⟨_, List.getElem?_eq_getElem (by omega)⟩
  obtain ⟨g, o, eA, g1⟩ := ints_cell hv.ok.next hx
  have e : fromV v.next n v.now = maxV v.now x := by rw [fromV, List.getD_eq_getElem?_getD, hx]; rfl
  rw [e]
  repeat' (first | ((apply WQ.rd; (exact rfl); apply Rn.q; (exact Rn.indexAddrE n eA rfl rfl (by first | rfl | omega) (by first | assumption | omega)))) | ((apply WQ.rd; (exact rfl); apply Rn.q; (apply Rn.load; (exact rfl); (exact (CellsAt.weak g1 (by simp)) 0 _ rfl)))) | (first | refine sqA ?_ | refine soA ?_ | refine sgA ?_ | refine sxA ?_ | refine sbA ?_ | refine suA ?_ | refine fun (Q : Post) hQ => ?_ | refine fun (nb : Nat) => (?_ : WL _ _ _ _ _ _ _ _ _) | (refine WL.guard rfl rfl rfl (fun h => ?_) (fun h => ?_) <;> (try dsimp only at h)) | (refine WQ.guard rfl rfl rfl (fun h => ?_) (fun h => ?_) <;> (try dsimp only at h))))
  ((refine seE ?_); refine ⟨[], Keep.nil, ?_⟩)
  exact ⟨rfl, rfl⟩
theorem sdead_any (vb : Nat) (v : SV) (n : Int) (F : Hp) (hv : SVAt F vb v) : Spec Tryz.prog 295 [.pointer (some ⟨vb, 0, none⟩), .int .i64 n] F [] fun u hs => u = .tuple #[.int .i64 ((deadV v.js n).getD 0), .bool (deadV v.js n).isSome] ∧ hs = [] := by
  refine Spec.enter Tryz.func295 rfl Tryz.ntmps295 rfl fun B => ?_
  have hb := hv.blk
  have hf := hv.ok.jfit
  repeat' (first | refine soA ?_ | refine sgA ?_ | refine sxA ?_ | refine sbA ?_ | refine fun (Q : Post) hQ => ?_ | refine fun (nb : Nat) => (?_ : WL _ _ _ _ _ _ _ _ _) | (refine WL.guard rfl rfl rfl (fun h => ?_) (fun h => ?_) <;> (try dsimp only at h)))
  refine W.loopK (σ := Nat) ⟨fun k => k ≤ v.js.length ∧ (v.js.take k).find? (fun j => j.task == n) = none, fun k => [(13, some (.int .i64 (k : Nat))), (12, some (.int .i64 (v.js.length : Nat))), (11, some (.slice v.A3 v.js.length v.c3)), (1, some (.int .i64 n))], fun _ => [], fun k => v.js.length - k⟩ 0 ⟨Nat.zero_le _, rfl⟩ (by repeat' (first | exact trivial | refine ⟨rfl, ?_⟩)) (by (exact keA)) ?_
  intro k hk Q hL
  dsimp only at hk ⊢
  obtain ⟨hk, hnone⟩ := hk
  repeat' (first | refine soA ?_ | refine sgA ?_ | refine sxA ?_ | refine sbA ?_ | refine fun (Q : Post) hQ => ?_ | refine fun (nb : Nat) => (?_ : WL _ _ _ _ _ _ _ _ _) | (refine WL.guard rfl rfl rfl (fun h => ?_) (fun h => ?_) <;> (try dsimp only at h)))
  refine W.cond rfl (fun h => ?_) (fun h => ?_)
  · have hlt : k < v.js.length := by simpa using h
    obtain ⟨j, hj⟩ : ∃ j, v.js[k]? = some j := ⟨_, List.getElem?_eq_getElem (by simpa using hlt)⟩
    obtain ⟨g, o, eA, g1⟩ := hv.ok.jobs.elem 6 (fun _ => rfl) (by omega) k j hj
    have htk : v.js.take (k + 1) = v.js.take k ++ [j] := by rw [List.take_add_one, hj]; rfl
    by_cases e : j.task = n
    · have hfd : deadV v.js n = some j.deadline := by
        have : v.js.find? (fun j => j.task == n) = some j := by
          rw [← List.take_append_drop (k + 1) v.js, List.find?_append, htk, List.find?_append, hnone]
          simp [e]
        rw [deadV, this]; rfl
      repeat' (first | ((apply WL.rd; (exact rfl); (exact Rn.indexAddrE k eA rfl rfl (by first | rfl | omega) (by first | assumption | omega)))) | ((apply WL.rd; (exact rfl); (apply Rn.loadS; (exact rfl); (exact (CellsAt.weak g1 (by simp))); (exact rfl)))) | ((apply WL.rd; (exact rfl); (exact Rn.cmp (b := true) rfl rfl (congrArg some (beq_iff_eq.2 e))))) | (first | refine soA ?_ | refine sgA ?_ | refine sxA ?_ | refine sbA ?_ | refine fun (Q : Post) hQ => ?_ | refine fun (nb : Nat) => (?_ : WL _ _ _ _ _ _ _ _ _) | (refine WL.guard rfl rfl rfl (fun h => ?_) (fun h => ?_) <;> (try dsimp only at h))))
      ((refine seE ?_); refine ⟨[], Keep.nil, ?_⟩)
      exact ⟨by rw [hfd]; rfl, rfl⟩
    · skip
      repeat' (first | ((apply WL.rd; (exact rfl); (exact Rn.indexAddrE k eA rfl rfl (by first | rfl | omega) (by first | assumption | omega)))) | ((apply WL.rd; (exact rfl); (apply Rn.loadS; (exact rfl); (exact (CellsAt.weak g1 (by simp))); (exact rfl)))) | ((apply WL.rd; (exact rfl); (exact Rn.cmp (b := false) rfl rfl (congrArg some (beq_eq_false_iff_ne.2 e))))) | (first | refine soA ?_ | refine sgA ?_ | refine sxA ?_ | refine sbA ?_ | refine fun (Q : Post) hQ => ?_ | refine fun (nb : Nat) => (?_ : WL _ _ _ _ _ _ _ _ _) | (refine WL.guard rfl rfl rfl (fun h => ?_) (fun h => ?_) <;> (try dsimp only at h))))
      exact hL.nx (k + 1) _ _ ⟨by omega, by rw [htk, List.find?_append, hnone]; simp [e]⟩ (by dsimp only; omega) (by repeat' (first | exact trivial | refine ⟨rfl, ?_⟩)) (by (exact keA))
  · obtain rfl : k = v.js.length := by simp at h; omega
    rw [List.take_length] at hnone
    have hfd : deadV v.js n = none := by rw [deadV, hnone]; rfl
    repeat' (first | refine soA ?_ | refine sgA ?_ | refine sxA ?_ | refine sbA ?_ | refine fun (Q : Post) hQ => ?_ | refine fun (nb : Nat) => (?_ : WL _ _ _ _ _ _ _ _ _) | (refine WL.guard rfl rfl rfl (fun h => ?_) (fun h => ?_) <;> (try dsimp only at h)))
    ((refine seE ?_); refine ⟨[], Keep.nil, ?_⟩)
    exact ⟨by rw [hfd]; rfl, rfl⟩
theorem smay_any (vb : Nat) (v : SV) (n : Nat) (t : TaskV) (at_ : Int) (F : Hp) (hv : SVAt F vb v) (hn : v.ts[n]? = some t) : Spec Tryz.prog 297 [.pointer (some ⟨vb, 0, none⟩), .int .i64 (n : Nat), .int .i64 at_] F [] fun u hs => u = .bool (mayV (v.ts.map TaskV.pl) v.next v.js v.now n t.pl at_) ∧ hs = [] := by
  refine Spec.enter Tryz.func297 rfl Tryz.ntmps297 rfl fun B => ?_
  have hb := hv.blk
  have hlt := (List.getElem?_eq_some_iff.1 hn).1
  obtain ⟨g, o, eA, g1⟩ := hv.ok.tasks.at_.row.elem 4 (fun _ => rfl) (by omega) n t hn
  have e : mayV (v.ts.map TaskV.pl) v.next v.js v.now n t.pl at_ = (((deadV v.js n).isSome && decide ((deadV v.js n).getD 0 ≤ at_)) || decide (w64 (fromV v.next n v.now + t.period) ≤ at_)) := by
    unfold mayV; cases deadV v.js n <;> rfl
  rw [e]
  repeat' (first | ((refine WL.ex rfl (WO.callN Tryz.func295 rfl (by kernel_rfl) rfl (by (exact tsA)) (fun G hG hh => sdead_any vb v (n : Nat) G (hv.up hG)) ?_); rintro v own' ⟨rfl, rfl⟩)) | ((apply WH.ex; (exact rfl); (exact rfl); (exact rfl); intro hb; (refine Qn.call Tryz.func290 rfl (by kernel_rfl) rfl (by (exact tsA)) (fun G hG hh => sfrom_any vb v n G (hv.up hG) hlt)))) | ((apply WH.ex; (exact rfl); (exact rfl); (exact rfl); intro hb; apply Rn.q; (exact Rn.indexAddrE n eA rfl rfl (by first | rfl | omega) (by first | assumption | omega)))) | ((apply WH.ex; (exact rfl); (exact rfl); (exact rfl); intro hb; apply Rn.q; (apply Rn.load; (exact rfl); (exact (CellsAt.weak g1 (by simp)) 0 _ rfl)))) | ((apply WH.ex; (exact rfl); (exact rfl); (exact rfl); intro hb; apply Rn.q; (exact Rn.nilCheck rfl))) | (first | refine sqA ?_ | refine soA ?_ | refine sgA ?_ | refine sxA ?_ | refine sbA ?_ | refine suA ?_ | refine fun (Q : Post) hQ => ?_ | refine fun (nb : Nat) => (?_ : WL _ _ _ _ _ _ _ _ _) | (refine WL.guard rfl rfl rfl (fun h => ?_) (fun h => ?_) <;> (try dsimp only at h)) | (refine WQ.guard rfl rfl rfl (fun h => ?_) (fun h => ?_) <;> (try dsimp only at h))))
  ((refine seE ?_); refine ⟨[], Keep.nil, ?_⟩)
  exact ⟨rfl, rfl⟩
end Go.Proofs.YtflgnpidelkkpaaGreat
