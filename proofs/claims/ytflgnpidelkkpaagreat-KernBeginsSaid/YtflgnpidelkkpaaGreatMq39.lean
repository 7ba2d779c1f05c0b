/- part 39 of the proof: contracts of the functions that the law reaches, and plain laws. -/
import Derived.Conc.SmallLaws
import Derived.Test.YtflgnpidelkkpaaGreatMq7
import Derived.Test.YtflgnpidelkkpaaGreatMq38
import Derived.Test.YtflgnpidelkkpaaGreatMq36
import Derived.Test.YtflgnpidelkkpaaGreatMq35
namespace Go.Proofs.YtflgnpidelkkpaaGreat
set_option maxRecDepth 8000
set_option maxHeartbeats 1000000
open Go.Conc
set_option linter.unusedVariables false
set_option linter.unusedSimpArgs false
theorem WO.makeChan {P : Program} {n : Nat} {B : World} {F : Hp} {hs : List Hp} {env : Env} {ty t e sz by' : Nat} {dir : ChanDir} {x : Operand} {K : Value → List Hp → Prop} (m : Nat) [hu : UT P t (.chan dir e)] [hz : SZ P e sz by'] (hx : ev env x = some (.int .i64 (m : Int))) (hm : by' * m ≤ 281474976710544) (hm2 : m ≤ 9223372036854775807)
    (k : ∀ b, K (.chan (some b)) (one b (.chan m #[] false 0 0 false) :: hs)) : WO P n B F (.makeChan t x) ty env hs K := fun o h1 h2 a w he ho next Q hn => by
  have hsz := hz.eq
  unfold sizeB at hsz
  cases hi : P.info? e with
  | none => rw [hi] at hsz; cases hsz
  | some ti =>
    rw [hi] at hsz
    simp only [Option.map_some, Option.some.injEq, Prod.mk.injEq] at hsz
    have hr := run_makeChan (P := P) (w := w) hu.eq hi .i64 m (by omega) (by rw [hsz.2]; have : ((by' : Nat) : Int) * (m : Int) = ((by' * m : Nat) : Int) := by rw [Int.natCast_mul]
                                                                             rw [this]; omega)
    unfold Oper.wp execOp
    simp only [h1, he.ev hx, Sem.run_bind, hr, Result.andThen_ok, Sem.run_pure, Oper.upon_value]
    exact hn _ _ _ (k w.heap.size) (ho.alloc _)
theorem zrow_rep {α : Type} (f : α → List Value) (z : α) (n : Nat) : zrow (f z) n = (List.replicate n z).flatMap f := by
  induction n with
  | zero => rfl
  | succ n ih => rw [List.replicate_succ, List.flatMap_cons, ← ih]; rfl
theorem arr_rep {α : Type} {f : α → List Value} {sz : Nat} (hsz : ∀ x, (f x).length = sz) {e : TypeId} {z : α} {n b : Nat} (hn : n ≤ 1000) : Arr e sz (List.replicate n z).length ((List.replicate n z).flatMap f) (some ⟨b, 0, none⟩) n (one b (cells (zrow (f z) n) e)) := by
  have hl : (List.replicate n z).length = n := List.length_replicate
  have h := Arr.mk (e := e) (sz := sz) (n := n) (g := b) (cs := (List.replicate n z).flatMap f) (sp := []) (c := n) (by rw [flat_len f sz hsz, hl]) (by rw [List.append_nil, flat_len f sz hsz, hl]) (Nat.le_refl _) (Nat.le_trans hn (by decide))
  rw [List.append_nil, ← zrow_rep] at h
  rw [hl, ← zrow_rep]; exact h
instance : SZ Tryz.prog 201 0 0 := ⟨by kernel_rfl⟩
theorem Spec.thing {P : Program} {f : FuncId} {args : List Value} {F : Hp} {R : Nat → List Hp → Prop} (h : Spec P f args F [] fun v hs => ∃ b, v = ptrV b ∧ R b hs) : Spec P f args F [] fun v hs => ∃ b h0, v = ptrV b ∧ hs = [h0] ∧ Thing (R b) h0 :=
  Spec.shutC (h.mono fun v hs ⟨b, e, r⟩ => ⟨hs, [], by simp, fun ap => ⟨b, joinL hs, e, rfl, hs, rfl, ap, r⟩⟩)
attribute [local irreducible] W X WL WA WB WG WO Rn Own one splice Arr Spec WQ WH Qn
set_option maxHeartbeats 4000000 in
theorem kown_any (p : PlatV) (F : Hp) (hp : PlatAt F p) (f0 : p.levels.xs.length * 16 ≤ 140737488355328) (f1 : p.sleeps.xs.length * 48 ≤ 140737488355328) (f2 : p.devices.xs.length * 56 ≤ 140737488355328) : Spec Tryz.prog 72 [.agg p.enc.toArray] F [] fun v hs => ∃ (q : PlatV) (h1 h2 h3 : Hp), v = .agg q.enc.toArray ∧ hs = [h1, h2, h3] ∧ q.pl = p.pl ∧ RowAt h1 [] q.levels.A (q.levels.xs.flatMap LevelV.enc) ∧ RowAt h2 [] q.sleeps.A (q.sleeps.xs.flatMap SleepV.enc) ∧ RowAt h3 [] q.devices.A (q.devices.xs.flatMap DeviceV.enc) := by
  refine Spec.enter Tryz.func72 rfl Tryz.ntmps72 rfl fun B => ?_
  repeat' (first | refine soA ?_ | refine sgA ?_ | refine sxA ?_ | refine sbA ?_ | refine fun (Q : Post) hQ => ?_ | refine fun (nb : Nat) => (?_ : WL _ _ _ _ _ _ _ _ _) | (refine WL.guard rfl rfl rfl (fun h => ?_) (fun h => ?_) <;> (try dsimp only at h)))
  refine dra [(1, [10, 12, 14])] [] ?_
  refine drp 15 0 1 ?_
  refine drl 15 1 0 3 ?_
  refine drp 15 3 11 ?_
  refine drl 15 4 0 27 ?_
  refine drp 15 6 91 ?_
  refine drl 15 7 0 219 ?_
  refine dr1 2 ?_
  refine dre 15 2 223 ?_
  (refine WO.callN Tryz.func120 rfl (by kernel_rfl) rfl (own := []) (by (exact tsA)) (fun G hG hh => cloneE_any p.levels.A p.levels.c p.levels.xs G (hp.up hG).levels f0) ?_; rintro v own' ⟨A1, c1, k1, rfl, rfl, a1⟩)
  refine ⟨piA, ?_⟩
  refine drp 15 9 735 ?_
  refine dr1 5 ?_
  refine dre 15 5 767 ?_
  (refine WO.callN Tryz.func121 rfl (by kernel_rfl) rfl (own := []) (by (exact tsA)) (fun G hG hh => cloneP_any p.sleeps.A p.sleeps.c p.sleeps.xs G (hp.up hG).sleeps f1) ?_; rintro v own' ⟨A2, c2, k2, rfl, rfl, a2⟩)
  refine ⟨piA, ?_⟩
  refine dr1 8 ?_
  refine dre 15 8 1023 ?_
  (refine WO.callN Tryz.func122 rfl (by kernel_rfl) rfl (own := []) (by (exact tsA)) (fun G hG hh => cloneD_any p.devices.A p.devices.c p.devices.xs G (hp.up hG).devices f2) ?_; rintro v own' ⟨A3, c3, k3, rfl, rfl, a3⟩)
  refine ⟨piA, ?_⟩
  refine dr1 10 ?_
  refine drf 15 10 2047 ?_
  (refine swA ?_)
  refine ⟨piA, ?_⟩
  refine drp 15 11 4095 ?_
  refine dr1 12 ?_
  refine drf 15 12 8191 ?_
  (refine swA ?_)
  refine ⟨piA, ?_⟩
  refine drp 15 13 16383 ?_
  refine dr1 14 ?_
  refine drf 15 14 32767 ?_
  (refine swA ?_)
  refine ⟨piA, ?_⟩
  refine drz ?_
  all_goals
    repeat' (first | refine soA ?_ | refine sgA ?_ | refine sxA ?_ | refine sbA ?_ | refine fun (Q : Post) hQ => ?_ | refine fun (nb : Nat) => (?_ : WL _ _ _ _ _ _ _ _ _) | (refine WL.guard rfl rfl rfl (fun h => ?_) (fun h => ?_) <;> (try dsimp only at h)))
    (refine seE ?_)
    exact ⟨[k1, k2, k3], (by (exact keA)), ⟨⟨A1, c1, p.levels.xs⟩, ⟨A2, c2, p.sleeps.xs⟩, ⟨A3, c3, p.devices.xs⟩, p.idle, p.crit, p.switch, p.switchE, p.sems, p.horizon⟩, k1, k2, k3, rfl, rfl, rfl, a1.rowX (Hp.le.refl _), a2.rowX (Hp.le.refl _), a3.rowX (Hp.le.refl _)⟩
end Go.Proofs.YtflgnpidelkkpaaGreat
namespace Go.Proofs.YtflgnpidelkkpaaGreat
set_option maxRecDepth 8000
set_option maxHeartbeats 1000000
set_option linter.unusedVariables false
set_option linter.unusedSimpArgs false
abbrev taskZV : TaskV := ⟨0, 0, ⟨none, 0, []⟩, ⟨none, 0, []⟩⟩
theorem new_done {p q : PlatV} {kb chb tb ub wb sb lb ab ib db eb rb : Nat} {g1 g2 g3 hS hL hA hI hR : Hp} (hq : q.pl = p.pl) (r1 : RowAt g1 [] q.levels.A (q.levels.xs.flatMap LevelV.enc)) (r2 : RowAt g2 [] q.sleeps.A (q.sleeps.xs.flatMap SleepV.enc)) (r3 : RowAt g3 [] q.devices.A (q.devices.xs.flatMap DeviceV.enc))
    (tS : Thing (RdyC sb []) hS) (tL : Thing (LockC lb []) hL) (tA : Thing (LatC ab []) hA) (tI : Thing (TimC ib []) hI) (tR : Thing (TraceO rb []) hR) (d3 : p.devices.xs.length ≤ 3) (ap : apartL [g1, g2, g3]) :
    KerC kb (newK p.pl) [one kb (cells [.slice q.levels.A q.levels.xs.length q.levels.c, .slice q.sleeps.A q.sleeps.xs.length q.sleeps.c, .slice q.devices.A q.devices.xs.length q.devices.c, .int .i64 q.idle, .int .i64 q.crit, .int .i64 q.switch, .int .i64 q.switchE, .int .i64 q.sems, .int .i64 q.horizon, .int .i64 0, .int .i64 0, .int .i64 0, .bool false, .chan (some chb), .slice (some ⟨tb, 0, none⟩) 6 6, .slice (some ⟨ub, 0, none⟩) 6 6, .slice (some ⟨wb, 0, none⟩) 6 6, ptrV sb, .slice none 0 0, .bool false, ptrV lb, ptrV ab, ptrV ib, .slice (some ⟨db, 0, none⟩) p.devices.xs.length p.devices.xs.length, .slice (some ⟨eb, 0, none⟩) p.devices.xs.length p.devices.xs.length, .bool false, .int .i64 0, .int .i64 0, ptrV rb, .int .i64 0, .int .i64 0, .int .i64 0, .int .i64 0, .slice none 0 0] 108),
      joinL [g1, g2, g3], one tb (cells (zrow (TaskV.enc taskZV) 6) 33), Hp.none, one ub (cells (zrow (encI 0) 6) 3), one wb (cells (zrow (encI 0) 6) 3), hS, Hp.none, hL, hA, hI, one db (cells (zrow (DevV.enc ⟨0, 0⟩) p.devices.xs.length) 72), one eb (cells (zrow (encI 0) p.devices.xs.length) 3), hR, Hp.none, one chb (.chan 6 #[] false 0 0 false)] := by
  have hd : (newK p.pl).devs.length = p.devices.xs.length := List.length_replicate
  have he : (newK p.pl).spent.length = p.devices.xs.length := List.length_replicate
  refine ⟨⟨q, chb, some ⟨tb, 0, none⟩, 6, List.replicate 6 taskZV, some ⟨ub, 0, none⟩, 6, some ⟨wb, 0, none⟩, 6, sb, none, 0, lb, ab, ib, some ⟨db, 0, none⟩, p.devices.xs.length, some ⟨eb, 0, none⟩, p.devices.xs.length, rb, none, 0⟩, joinL [g1, g2, g3], one tb (cells (zrow (TaskV.enc taskZV) 6) 33), Hp.none, one ub (cells (zrow (encI 0) 6) 3), one wb (cells (zrow (encI 0) 6) 3), hS, Hp.none, hL, hA, hI, one db (cells (zrow (DevV.enc ⟨0, 0⟩) p.devices.xs.length) 72), one eb (cells (zrow (encI 0) p.devices.xs.length) 3), hR, Hp.none, one chb (.chan 6 #[] false 0 0 false), ?_, ?_⟩
  · unfold KM; rw [hd, he]; rfl
  · exact { pl := hq
            plat := ⟨r1.up (joinL_le ap g1 (by simp)) (by simp), r2.up (joinL_le ap g2 (by simp)) (by simp), r3.up (joinL_le ap g3 (by simp)) (by simp)⟩
            tasks := rfl
            hT := arr_rep (f := TaskV.enc) (sz := 4) TaskV.enc_len (z := taskZV) (n := 6) (by decide)
            sec := fun t ht => by rw [List.eq_of_mem_replicate ht]; exact RowAt.nil
            dev := fun t ht => by rw [List.eq_of_mem_replicate ht]; exact RowAt.nil
            hN := arr_rep (f := encI) (sz := 1) (fun _ => rfl) (z := 0) (n := 6) (by decide)
            hU := arr_rep (f := encI) (sz := 1) (fun _ => rfl) (z := 0) (n := 6) (by decide)
            hS := tS
            hK := Arr.nil _ _
            hL := tL
            hA := tA
            hI := tI
            hD := arr_rep (f := DevV.enc) (sz := 2) (fun _ => rfl) (z := ⟨0, 0⟩) (n := p.devices.xs.length) (by omega)
            hE := arr_rep (f := encI) (sz := 1) (fun _ => rfl) (z := 0) (n := p.devices.xs.length) (by omega)
            hR := tR
            hV := Arr.nil _ _
            hC := ⟨0, 0, rfl⟩ }
end Go.Proofs.YtflgnpidelkkpaaGreat
namespace Go.Proofs.YtflgnpidelkkpaaGreat
set_option maxRecDepth 8000
set_option maxHeartbeats 1000000
set_option linter.unusedVariables false
set_option linter.unusedSimpArgs false
section
variable {P : Program} {n : Nat} {B : World} {F : Hp} {ops : Array Oper} {Q : Post} {pins : Pins}
structure Don where
  i : Nat
  d : Nat
  v : Value
  ns : List Hp
def freeOk (ops : Array Oper) (N full : Nat) (effs : List Nat) (L : List Nat) : Bool :=
  L.all fun m => Nat.beq m full || (!(Region.ready .any ops (bts N m)).isEmpty && (Region.ready .any ops (bts N m)).all fun i => effs.contains i && (!(m.testBit i) && (L.contains (m ||| 2 ^ i) && ((bts N m).setIfInBounds i true == bts N (m ||| 2 ^ i)))))
structure FreeI (effs : List (Nat × Nat)) (R : Nat → Value → List Hp → Prop) (env0 : Env) (hs0 : List Hp) (m : Nat) (rem : List (Nat × Nat)) (don : List Don) (env : Env) (hs : List Hp) : Prop where
  perm : (rem ++ don.map fun x => (x.i, x.d)).Perm effs
  r : ∀ p ∈ rem, m.testBit p.1 = false
  d : ∀ x ∈ don, m.testBit x.i = true ∧ R x.i x.v x.ns ∧ lk env x.d = some x.v
  e : ∀ t v, lk env0 t = some v → lk env t = some v
  h : hs = don.flatMap (·.ns) ++ hs0
theorem WA.free {N full fuel' : Nat} {L : List Nat} {effs : List (Nat × Nat)} {R : Nat → Value → List Hp → Prop} {env0 : Env} {hs0 : List Hp}
    (hok : freeOk ops N full (effs.map (·.1)) L = true) (hnd : (effs.map (·.1)).Nodup) (hnd2 : (effs.map (·.2)).Nodup) (hfull : ∀ p ∈ effs, full.testBit p.1 = true) (hout : ∀ p ∈ effs, lk env0 p.2 = none)
    (hpin : ∀ i ns, PinsOk (ns ++ hs0) i pins)
    (hop : ∀ p ∈ effs, ∃ op ty pos aft, ops[p.1]? = some ⟨some p.2, op, ty, pos, aft, none⟩ ∧ Nat.blt p.2 n = true ∧ ∀ env hs, (∀ t v, lk env0 t = some v → lk env t = some v) → WO P n B F op ty env hs fun v hs' => ∃ ns, R p.1 v ns ∧ hs' = ns ++ hs)
    (hend : ∀ don : List Don, (don.map fun x => (x.i, x.d)).Perm effs → (∀ x ∈ don, R x.i x.v x.ns) → ∀ env, (∀ x ∈ don, lk env x.d = some x.v) → (∀ t v, lk env0 t = some v → lk env t = some v) → WA P n B F ops Q pins fuel' (bts N full) env (don.flatMap (·.ns) ++ hs0)) :
    ∀ (k m : Nat) (rem : List (Nat × Nat)) (don : List Don) (env : Env) (hs : List Hp), rem.length = k → m ∈ L → FreeI effs R env0 hs0 m rem don env hs → WA P n B F ops Q pins (fuel' + k) (bts N m) env hs := by
  intro k
  induction k with
  | zero =>
    intro m rem don env hs hk hm h
    obtain rfl := List.eq_nil_of_length_eq_zero hk
    have hp : (don.map fun x => (x.i, x.d)).Perm effs := h.perm
    have h1 := List.all_eq_true.1 hok m hm
    have e : m = full := by
      rcases Bool.or_eq_true .. ▸ h1 with h2 | h2
      · exact Nat.eq_of_beq_eq_true h2
      · exfalso
        rw [Bool.and_eq_true] at h2
        cases hr : Region.ready .any ops (bts N m) with
        | nil => rw [hr] at h2; simp at h2
        | cons i r =>
          have h3 := List.all_eq_true.1 h2.2 i (by rw [hr]; simp)
          simp only [Bool.and_eq_true] at h3
          have h4 := List.contains_iff_mem.1 h3.1
          obtain ⟨p, hpe, rfl⟩ := List.mem_map.1 h4
          obtain ⟨x, hx, rfl⟩ := List.mem_map.1 (hp.mem_iff.2 hpe)
          have := (h.d x hx).1
          simp [this] at h3
    subst e
    rw [h.h]
    exact hend don hp (fun x hx => (h.d x hx).2.1) env (fun x hx => (h.d x hx).2.2) h.e
  | succ k ih =>
    intro m rem don env hs hk hm h
    have h1 := List.all_eq_true.1 hok m hm
    have hnf : m ≠ full := by
      rintro rfl
      cases rem with
      | nil => cases hk
      | cons p r =>
        have := h.r p (by simp)
        rw [hfull p (h.perm.mem_iff.1 (by simp))] at this
        cases this
    have h2 : (!(Region.ready .any ops (bts N m)).isEmpty && (Region.ready .any ops (bts N m)).all fun i => (effs.map (·.1)).contains i && (!(m.testBit i) && (L.contains (m ||| 2 ^ i) && ((bts N m).setIfInBounds i true == bts N (m ||| 2 ^ i))))) = true := by
      rcases Bool.or_eq_true .. ▸ h1 with h2 | h2
      · exact absurd (Nat.eq_of_beq_eq_true h2) hnf
      · exact h2
    rw [Bool.and_eq_true] at h2
    refine WA.all (fuel := fuel' + k) rfl (by intro e; rw [e] at h2; simp at h2) fun i hi => ?_
    have h3 := List.all_eq_true.1 h2.2 i hi
    simp only [Bool.and_eq_true] at h3
    obtain ⟨h4, h5, h6, h7⟩ := h3
    obtain ⟨p, hpe, rfl⟩ := List.mem_map.1 (List.contains_iff_mem.1 h4)
    obtain ⟨op, ty, pos, aft, ho, hd, hw⟩ := hop p hpe
    have hpr : p ∈ rem := by
      rcases List.mem_append.1 (h.perm.mem_iff.2 hpe) with hr | hr
      · exact hr
      · obtain ⟨x, hx, rfl⟩ := List.mem_map.1 hr
        have := (h.d x hx).1
        simp [this] at h5
    refine WB.ex ho hd h7 ((hw env hs h.e).mono fun v hs' hv => ?_)
    obtain ⟨ns, hR, rfl⟩ := hv
    have hk2 : (rem.erase p).length = k := by rw [List.length_erase_of_mem hpr, hk]; rfl
    have hpm : ((rem.erase p) ++ (⟨p.1, p.2, v, ns⟩ :: don : List Don).map fun x => (x.i, x.d)).Perm effs := by
      refine List.Perm.trans ?_ h.perm
      rw [List.map_cons]
      exact List.perm_middle.trans (List.Perm.append_right _ (List.perm_cons_erase hpr).symm)
    have hndr : ((rem.erase p ++ (⟨p.1, p.2, v, ns⟩ :: don : List Don).map fun x => (x.i, x.d)).map (·.1)).Nodup := (hpm.map _).nodup_iff.2 hnd
    have hndr2 : ((rem.erase p ++ (⟨p.1, p.2, v, ns⟩ :: don : List Don).map fun x => (x.i, x.d)).map (·.2)).Nodup := (hpm.map _).nodup_iff.2 hnd2
    refine ⟨?_, ih (m ||| 2 ^ p.1) (rem.erase p) (⟨p.1, p.2, v, ns⟩ :: don) _ _ hk2 (List.contains_iff_mem.1 h6) ⟨hpm, ?_, ?_, ?_, ?_⟩⟩
    · rw [h.h, ← List.append_assoc]; exact hpin _ _
    · intro q hq
      have hne : q.1 ≠ p.1 := by
        rw [List.map_append, List.map_map, List.map_cons] at hndr
        have := (List.nodup_append.1 hndr).2.2 q.1 (List.mem_map.2 ⟨q, hq, rfl⟩) p.1 (by simp)
        exact this
      rw [Nat.testBit_or, h.r q (List.mem_of_mem_erase hq), Nat.testBit_two_pow]
      simp; omega
    · intro x hx
      rcases List.mem_cons.1 hx with rfl | hx
      · refine ⟨by rw [Nat.testBit_or, Nat.testBit_two_pow]; simp, hR, ?_⟩
        rw [lk_put]; simp
      · obtain ⟨a1, a2, a3⟩ := h.d x hx
        refine ⟨by rw [Nat.testBit_or, a1]; rfl, a2, ?_⟩
        have hne : p.2 ≠ x.d := by
          rw [List.map_append, List.map_cons, List.map_cons] at hndr2
          have := (List.nodup_cons.1 (List.nodup_append.1 hndr2).2.1).1
          intro e
          exact this (by rw [List.map_map]; exact List.mem_map.2 ⟨x, hx, e.symm⟩)
        rw [lk_put, if_neg hne]; exact a3
    · intro t u hu
      have hne : p.2 ≠ t := by
        rintro rfl
        rw [hout p hpe] at hu; cases hu
      rw [lk_put, if_neg hne]; exact h.e t u hu
    · rw [h.h, List.flatMap_cons, List.append_assoc]
theorem WA.monoE {fuel : Nat} {listed : Array Bool} {env env' : Env} {hs hs' : List Hp} (he : ∀ t v, lk env' t = some v → lk env t = some v) (hk : hs.Perm hs') (h : WA P n B F ops Q pins fuel listed env' hs') : WA P n B F ops Q pins fuel listed env hs :=
  fun hQ a w e o => h hQ a w (e.mono he) (o.perm hk)
theorem lk_eff {env0 : Env} {f : Nat → Value × List Hp} {t : Nat} {v : Value} : ∀ {l : List (Nat × Nat)}, lk (l.map (fun p => (p.2, some (f p.1).1)) ++ env0) t = some v → (∃ p ∈ l, p.2 = t ∧ (f p.1).1 = v) ∨ lk env0 t = some v
  | [], h => .inr h
  | p :: r, h => by
    rw [List.map_cons, List.cons_append, lk_put] at h
    by_cases e : p.2 = t
    · rw [if_pos e] at h; exact .inl ⟨p, by simp, e, by injection h⟩
    · rw [if_neg e] at h
      rcases lk_eff h with ⟨q, hq, k⟩ | k
      · exact .inl ⟨q, by simp [hq], k⟩
      · exact .inr k
theorem take_midF {α : Type} : ∀ (l : List α) (x : α) (r : List α), Take (l ++ x :: r) x (l ++ r)
  | [], _, _ => .here
  | _ :: l, x, r => .there (take_midF l x r)
theorem flatMap_congF {α β : Type} {g h : α → List β} : ∀ {l : List α}, (∀ x ∈ l, g x = h x) → l.flatMap g = l.flatMap h
  | [], _ => rfl
  | x :: l, k => by rw [List.flatMap_cons, List.flatMap_cons, k x (by simp), flatMap_congF fun y hy => k y (by simp [hy])]
theorem keep_right {α : Type} : ∀ (l r : List α), Keep (l ++ r) r
  | l, [] => .nil
  | l, x :: r => .cons (r := l ++ r) (take_midF l x r) (keep_right l r)
theorem WO.monoE {op : Op} {ty : TypeId} {env env' : Env} {hs : List Hp} {K : Value → List Hp → Prop} (h : WO P n B F op ty env' hs K) (he : ∀ t v, lk env' t = some v → lk env t = some v) : WO P n B F op ty env hs K :=
  fun o h1 h2 a w e => h o h1 h2 a w (e.mono he)
theorem PinsOk.one {h : Hp} {tl : List Nat} (i : Nat) (ns : List Hp) : PinsOk (ns ++ [h]) i [(h, tl)] := ⟨.inr (keep_right ns [h]), trivial⟩
theorem WA.any {N full fuel' : Nat} (effs : List (Nat × Nat)) (L : List Nat) (R : Nat → Value → List Hp → Prop) {env0 : Env} {hs0 : List Hp} {k m : Nat} (hk : effs.length = k) (hm : m ∈ L)
    (hok : freeOk ops N full (effs.map (·.1)) L = true) (hnd : (effs.map (·.1)).Nodup) (hnd2 : (effs.map (·.2)).Nodup) (hfull : ∀ p ∈ effs, full.testBit p.1 = true) (hm0 : ∀ p ∈ effs, m.testBit p.1 = false) (hout : ∀ p ∈ effs, lk env0 p.2 = none)
    (hpin : ∀ i ns, PinsOk (ns ++ hs0) i pins)
    (hop : ∀ p ∈ effs, ∃ op ty pos aft, ops[p.1]? = some ⟨some p.2, op, ty, pos, aft, none⟩ ∧ Nat.blt p.2 n = true ∧ ∀ hs, WO P n B F op ty env0 hs fun v hs' => ∃ ns, R p.1 v ns ∧ hs' = ns ++ hs)
    (hend : ∀ f : Nat → Value × List Hp, (∀ p ∈ effs, R p.1 (f p.1).1 (f p.1).2) → WA P n B F ops Q pins fuel' (bts N full) (effs.map (fun p => (p.2, some (f p.1).1)) ++ env0) (effs.flatMap (fun p => (f p.1).2) ++ hs0)) :
    WA P n B F ops Q pins (fuel' + k) (bts N m) env0 hs0 := by
  refine WA.free hok hnd hnd2 hfull hout hpin (fun p hp => let ⟨op, ty, pos, aft, h1, h2, h3⟩ := hop p hp; ⟨op, ty, pos, aft, h1, h2, fun env hs he => (h3 hs).monoE he⟩) (fun don hp hR env he he0 => ?_) k m effs [] env0 hs0 hk hm ⟨by simp, hm0, by simp, fun _ _ h => h, rfl⟩
  have hdn : (don.map (·.i)).Nodup := by
    have := (hp.map (·.1)).nodup_iff.2 hnd
    rwa [List.map_map] at this
  let f : Nat → Value × List Hp := fun i => match don.find? (fun x => x.i == i) with
    | some x => (x.v, x.ns)
    | none => (undef, [])
  have hf : ∀ x ∈ don, f x.i = (x.v, x.ns) := fun x hx => by
    have : don.find? (fun y => y.i == x.i) = some x := by
      clear hp hR he f
      induction don with
      | nil => cases hx
      | cons y r ih =>
        rw [List.find?_cons]
        rcases List.mem_cons.1 hx with rfl | hx
        · simp
        · have hyn : (y.i == x.i) = false := by
            rw [beq_eq_false_iff_ne]
            intro e
            exact (List.nodup_cons.1 hdn).1 (List.mem_map.2 ⟨x, hx, e.symm⟩)
          rw [hyn]
          exact ih (List.nodup_cons.1 hdn).2 hx
    show (match don.find? (fun y => y.i == x.i) with | some x => (x.v, x.ns) | none => (undef, [])) = _
    rw [this]
  have hin : ∀ p ∈ effs, ∃ x ∈ don, x.i = p.1 ∧ x.d = p.2 := fun p hpe => by
    obtain ⟨x, hx, rfl⟩ := List.mem_map.1 (hp.mem_iff.2 hpe)
    exact ⟨x, hx, rfl, rfl⟩
  refine WA.monoE (fun t v h => ?_) ?_ (hend f fun p hpe => ?_)
  · rcases lk_eff h with ⟨p, hpe, rfl, rfl⟩ | h
    · obtain ⟨x, hx, e1, e2⟩ := hin p hpe
      rw [← e2, ← e1, hf x hx]; exact he x hx
    · exact he0 t v h
  · refine List.Perm.append_right _ ?_
    have h1 : (don.flatMap (·.ns)) = (don.map fun x => (x.i, x.d)).flatMap fun p => (f p.1).2 := by
      rw [List.flatMap_map]
      exact flatMap_congF fun x hx => by dsimp only; rw [hf x hx]
    rw [h1]
    exact hp.flatMap_right _
  · obtain ⟨x, hx, e1, e2⟩ := hin p hpe
    rw [← e1, hf x hx]; exact hR x hx
def depF (a : Nat) (e : Edge) : Nat := if Region.binds .any e = true then a ||| 2 ^ e.on else a
def depM (o : Oper) : Nat := o.after.toList.foldl depF 0
theorem depF_bit (k : Nat) : ∀ (l : List Edge) (a : Nat), (l.foldl depF a).testBit k = true ↔ a.testBit k = true ∨ ∃ e ∈ l, Region.binds .any e = true ∧ e.on = k
  | [], a => by simp
  | e :: l, a => by
    rw [List.foldl_cons, depF_bit k l]
    unfold depF
    by_cases hb : Region.binds .any e = true
    · rw [if_pos hb, Nat.testBit_or, Nat.testBit_two_pow]
      simp only [Bool.or_eq_true, decide_eq_true_eq, List.mem_cons]
      constructor
      · rintro ((h | h) | ⟨x, hx, h⟩)
        · exact .inl h
        · exact .inr ⟨e, .inl rfl, hb, h⟩
        · exact .inr ⟨x, .inr hx, h⟩
      · rintro (h | ⟨x, rfl | hx, h⟩)
        · exact .inl (.inl h)
        · exact .inl (.inr h.2)
        · exact .inr ⟨x, hx, h⟩
    · rw [if_neg hb]
      simp only [List.mem_cons]
      constructor
      · rintro (h | ⟨x, hx, h⟩)
        · exact .inl h
        · exact .inr ⟨x, .inr hx, h⟩
      · rintro (h | ⟨x, rfl | hx, h⟩)
        · exact .inl h
        · exact absurd h.1 hb
        · exact .inr ⟨x, hx, h⟩
theorem dep_all {m : Nat} {o : Oper} : Nat.land m (depM o) = depM o ↔ ∀ e ∈ o.after, Region.binds .any e = true → m.testBit e.on = true := by
  show m &&& depM o = depM o ↔ _
  constructor
  · intro h e he hb
    have h1 : (depM o).testBit e.on = true := (depF_bit _ _ _).2 (.inr ⟨e, Array.mem_toList_iff.2 he, hb, rfl⟩)
    rw [← h, Nat.testBit_and] at h1
    exact (Bool.and_eq_true _ _ ▸ h1).1
  · intro h
    refine Nat.eq_of_testBit_eq fun k => ?_
    rw [Nat.testBit_and]
    cases hk : (depM o).testBit k with
    | false => rw [Bool.and_false]
    | true =>
      rcases (depF_bit _ _ _).1 hk with h0 | ⟨e, he, hb, rfl⟩
      · simp at h0
      · rw [h e (Array.mem_toList_iff.1 he) hb]; rfl
def rdM (m : Nat) : List Nat → Nat → List Nat
  | [], _ => []
  | d :: r, j => if (!(m.testBit j) && Nat.beq (Nat.land m d) d) = true then j :: rdM m r (j + 1) else rdM m r (j + 1)
theorem rdM_mem {m k : Nat} : ∀ {D : List Nat} {j : Nat}, k ∈ rdM m D j ↔ ∃ i d, D[i]? = some d ∧ k = j + i ∧ m.testBit k = false ∧ Nat.land m d = d
  | [], j => by simp [rdM]
  | d :: r, j => by
    rw [rdM]
    have ih := rdM_mem (m := m) (k := k) (D := r) (j := j + 1)
    constructor
    · intro h
      have hh : (k = j ∧ m.testBit j = false ∧ Nat.land m d = d) ∨ k ∈ rdM m r (j + 1) := by
        by_cases c : (!(m.testBit j) && Nat.beq (Nat.land m d) d) = true
        · rw [if_pos c] at h
          rcases List.mem_cons.1 h with rfl | h
          · rw [Bool.and_eq_true] at c
            exact .inl ⟨rfl, by simpa using c.1, Nat.eq_of_beq_eq_true c.2⟩
          · exact .inr h
        · rw [if_neg c] at h; exact .inr h
      rcases hh with ⟨rfl, h1, h2⟩ | h
      · exact ⟨0, d, rfl, rfl, h1, h2⟩
      · obtain ⟨i, d', h1, h2, h3⟩ := ih.1 h
        exact ⟨i + 1, d', h1, by omega, h3⟩
    · rintro ⟨i, d', h1, h2, h3, h4⟩
      cases i with
      | zero =>
        rw [List.getElem?_cons_zero, Option.some.injEq] at h1
        subst h1
        have hk : k = j := by omega
        subst hk
        have : (!(m.testBit k) && Nat.beq (Nat.land m d) d) = true := by rw [h3, h4]; simp
        rw [if_pos this]; simp
      | succ i =>
        have : k ∈ rdM m r (j + 1) := ih.2 ⟨i, d', h1, by omega, h3, h4⟩
        split
        · exact List.mem_cons_of_mem _ this
        · exact this
theorem bts_get {N m i : Nat} {b : Bool} : (bts N m).getD i b = if i < N then m.testBit i else b := by
  unfold bts
  by_cases h : i < N
  · simp [h]
  · simp [h]
theorem ready_mask {N m : Nat} (hN : ops.size = N) (hm : m < 2 ^ N) {k : Nat} : k ∈ Region.ready .any ops (bts N m) ↔ k ∈ rdM m (ops.toList.map depM) 0 := by
  rw [rdM_mem]
  unfold Region.ready
  rw [List.mem_filter, List.mem_range, hN]
  constructor
  · rintro ⟨hk, h⟩
    rw [Bool.and_eq_true] at h
    obtain ⟨o, ho⟩ : ∃ o, ops[k]? = some o := ⟨_, Array.getElem?_eq_getElem (by omega)⟩
    rw [ho, bts_get, if_pos hk] at h
    refine ⟨k, depM o, ?_, by omega, by simpa using h.1, dep_all.2 fun e he hb => ?_⟩
    · rw [List.getElem?_map, Array.getElem?_toList, ho]; rfl
    · have h2 := h.2
      simp only [Option.map_some, Option.getD_some] at h2
      have h3 := Array.all_eq_true_iff_forall_mem.1 h2 e he
      rw [hb, bts_get] at h3
      by_cases hl : e.on < N
      · rw [if_pos hl] at h3; simpa using h3
      · rw [if_neg hl] at h3; simp at h3
  · rintro ⟨i, d, h1, h2, h3, h4⟩
    obtain rfl : k = i := by omega
    rw [List.getElem?_map, Array.getElem?_toList] at h1
    cases ho : ops[k]? with
    | none => rw [ho] at h1; cases h1
    | some o =>
      rw [ho, Option.map_some, Option.some.injEq] at h1
      subst h1
      have hk : k < N := by rw [← hN]; exact (Array.getElem?_eq_some_iff.1 ho).1
      refine ⟨hk, ?_⟩
      rw [bts_get, if_pos hk, h3]
      simp only [Option.map_some, Option.getD_some, Bool.not_false, Bool.true_and]
      refine Array.all_eq_true_iff_forall_mem.2 fun e he => ?_
      cases hb : Region.binds .any e with
      | false => rfl
      | true =>
        have h5 := dep_all.1 h4 e he hb
        have hl : e.on < N := by
          rcases Nat.lt_or_ge e.on N with h | h
          · exact h
          · rw [Nat.testBit_lt_two_pow (Nat.lt_of_lt_of_le hm (Nat.pow_le_pow_right (by decide) h))] at h5; cases h5
        rw [bts_get, if_pos hl, h5]; rfl
theorem bts_opt {N m j : Nat} : (bts N m)[j]? = if j < N then some (m.testBit j) else none := by
  unfold bts
  by_cases h : j < N
  · simp [h]
  · simp [h]
theorem bts_set {N m i : Nat} : (bts N m).setIfInBounds i true = bts N (m ||| 2 ^ i) := by
  have hs : (bts N m).size = N := by unfold bts; simp
  refine Array.ext_getElem? fun j => ?_
  rw [Array.getElem?_setIfInBounds, hs, bts_opt, bts_opt, Nat.testBit_or, Nat.testBit_two_pow]
  by_cases e : i = j
  · subst e
    by_cases h : i < N
    · simp [h]
    · simp [h]
  · simp [e]
def maskOk (D : List Nat) (full lim : Nat) (effs : List Nat) (L : List Nat) : Bool :=
  L.all fun m => Nat.blt m lim && (Nat.beq m full || (!(rdM m D 0).isEmpty && (rdM m D 0).all fun i => effs.contains i && L.contains (Nat.lor m (2 ^ i))))
theorem freeOk_mask {N full : Nat} {D effs L : List Nat} (hN : ops.size = N) (hD : ops.toList.map depM = D) (h : maskOk D full (2 ^ N) effs L = true) : freeOk ops N full effs L = true := by
  unfold freeOk
  refine List.all_eq_true.2 fun m hm => ?_
  have h1 := List.all_eq_true.1 h m hm
  rw [Bool.and_eq_true] at h1
  have hlt : m < 2 ^ N := Nat.le_of_ble_eq_true h1.1
  rcases Bool.or_eq_true .. ▸ h1.2 with h2 | h2
  · rw [h2]; rfl
  · rw [Bool.and_eq_true] at h2
    have hr : ∀ k, k ∈ Region.ready .any ops (bts N m) ↔ k ∈ rdM m D 0 := fun k => by rw [ready_mask hN hlt, hD]
    have e1 : (!(Region.ready .any ops (bts N m)).isEmpty) = true := by
      cases e : rdM m D 0 with
      | nil => rw [e] at h2; simp at h2
      | cons k r =>
        have hk := (hr k).2 (by rw [e]; simp)
        cases e2 : Region.ready .any ops (bts N m) with
        | nil => rw [e2] at hk; cases hk
        | cons _ _ => rfl
    rw [e1]
    refine Bool.or_eq_true .. ▸ .inr ?_
    rw [Bool.true_and]
    refine List.all_eq_true.2 fun i hi => ?_
    have hi2 := (hr i).1 hi
    have h3 := List.all_eq_true.1 h2.2 i hi2
    rw [Bool.and_eq_true] at h3
    obtain ⟨_, _, _, _, h4, _⟩ := rdM_mem.1 hi2
    have h5 : L.contains (m ||| 2 ^ i) = true := h3.2
    rw [h3.1, h4, h5, bts_set]
    simp
end
end Go.Proofs.YtflgnpidelkkpaaGreat
