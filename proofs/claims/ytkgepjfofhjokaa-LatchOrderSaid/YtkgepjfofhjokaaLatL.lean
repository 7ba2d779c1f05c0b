/- latch: the law's own questions: answers, first, waits, next. -/
import Derived.Test.YtkgepjfofhjokaaLat
namespace Go.Proofs.Ytkgepjfofhjokaa
set_option linter.unusedVariables false
set_option linter.unusedSimpArgs false
attribute [local irreducible] W X WL WA WB WG WO Rn Own one splice Arr Spec
def toT (x : AOpV) : TimerV := ⟨x.task, x.mom, x.cycles⟩
abbrev ArrA (xs : List AOpV) (A : Option Addr) (c : Nat) (h : Hp) : Prop := Arr 100 4 xs.length (xs.flatMap AOpV.enc) A c h
theorem toT_get {xs : List AOpV} {i : Nat} {x : AOpV} (h : xs[i]? = some x) : (xs.map toT)[i]? = some (toT x) := by rw [List.getElem?_map, h]; rfl
theorem toT_any (xs : List AOpV) (id : Int) : ((xs.map toT).any fun x => x.id == id) = xs.any fun x => x.task == id := by rw [List.any_map]; rfl
theorem lnext_some {b : Nat} {l l' : List TimerV} {now : Int} {x : TimerV} (hF : FirstT l x) (hn : x.mom ≤ now) (e : offT x.id l = l') {F : Hp} {hs : List Hp} (ho : LatC b l hs) : Spec Try.prog 66 [.pointer (some ⟨b, 0, none⟩), .int .i64 now] F hs fun v hs' => v = .tuple #[.int .i64 x.id, .int .i64 x.mom, .int .i64 x.every, .bool true] ∧ LatC b l' hs' :=
  (lnext_any b l now F hs ho).mono fun v hs' h => by
    rcases h with ⟨y, hy, _, rfl, hc⟩ | ⟨h, _⟩
    · obtain rfl := hy.uniq ho.nd hF
      exact ⟨rfl, e ▸ hc⟩
    · have := h x hF.1; omega
theorem lnext_none {b : Nat} {l : List TimerV} {now : Int} (hn : ∀ x ∈ l, now < x.mom) {F : Hp} {hs : List Hp} (ho : LatC b l hs) : Spec Try.prog 66 [.pointer (some ⟨b, 0, none⟩), .int .i64 now] F hs fun v hs' => v = .tuple #[.int .i64 0, .int .i64 0, .int .i64 0, .bool false] ∧ hs' = hs :=
  (lnext_any b l now F hs ho).mono fun v hs' h => by
    rcases h with ⟨y, hy, hyn, _⟩ | ⟨h, rfl, rfl⟩
    · have := hn y hy.1; omega
    · exact ⟨rfl, rfl⟩
theorem FirstT.only (x : TimerV) : FirstT [x] x := ⟨by simp, fun y hy => by rw [List.mem_singleton.1 hy]; exact ahead_irr _⟩
theorem llen_eq {b n : Nat} {l : List TimerV} (e : l.length = n) {F : Hp} {hs : List Hp} (ho : LatC b l hs) : Spec Try.prog 63 [.pointer (some ⟨b, 0, none⟩)] F hs fun v hs' => v = .int .i64 (n : Nat) ∧ hs' = hs := e ▸ llen_any b l F hs ho
theorem lwaits_eq {b : Nat} {id : Int} {t : Bool} {l : List TimerV} (e : (l.any fun x => x.id == id) = t) {F : Hp} {hs : List Hp} (ho : LatC b l hs) : Spec Try.prog 62 [.pointer (some ⟨b, 0, none⟩), .int .i64 id] F hs fun v hs' => v = .bool t ∧ hs' = hs := e ▸ lwaits_any b l id F hs ho
set_option maxHeartbeats 1000000 in
theorem answersL_any (F : Hp) : Spec Try.prog 64 [] F [] fun v hs => v = .bool true ∧ hs = [] := by
  refine Spec.enter Try.func64 rfl Try.ntmps64 rfl fun B => ?_
  ((refine W.seqK fun Q hQ => ?_); (refine W.region ?_); (apply WL.rd; (exact rfl); exact Rn.assign rfl); (refine WL.nil ?_); (refine Cont.nx (by assumption) _ _ ?_); (refine W.seqK fun Q hQ => ?_); (refine W.region ?_); ((refine WL.ex rfl (WO.callA Try.func58 rfl (by kernel_rfl) rfl (fun G hG => lnew_any G) ?_); rintro v own' ⟨b, rfl, h0⟩)); (apply WL.rd; (exact rfl); exact Rn.assign rfl); (refine WL.nil ?_); (refine Cont.nx (by assumption) _ _ ?_); (refine W.seqK fun Q hQ => ?_); (refine W.region ?_); (apply WL.rd; (exact rfl); exact Rn.move rfl); ((refine WL.ex rfl (WO.callA Try.func60 rfl (by kernel_rfl) rfl (fun G hG => lput_new b [] 1 5 9 rfl (by decide) G _ h0) ?_); rintro v own' ⟨rfl, h1⟩)); (apply WL.rd; (exact rfl); exact Rn.move rfl); ((refine WL.ex rfl (WO.callA Try.func60 rfl (by kernel_rfl) rfl (fun G hG => lput_has b [⟨1, 5, 9⟩] 1 6 9 (by decide) G _ h1) ?_); rintro v own' ⟨rfl, rfl⟩)); (apply WL.rd; (exact rfl); exact Rn.assign rfl); (apply WL.rd; (exact rfl); exact Rn.assign rfl); (refine WL.nil ?_); (refine Cont.nx (by assumption) _ _ ?_); (refine W.seqK fun Q hQ => ?_); (refine W.region ?_); (apply WL.rd; (exact rfl); exact Rn.move rfl); ((refine WL.ex rfl (WO.callA Try.func66 rfl (by kernel_rfl) rfl (fun G hG => lnext_none (now := 4) (l := [⟨1, 5, 9⟩]) (by decide) h1) ?_); rintro v own' ⟨rfl, rfl⟩)); (apply WL.rd; (exact rfl); exact Rn.move rfl); (apply WL.rd; (exact rfl); exact Rn.extract rfl rfl); (apply WL.rd; (exact rfl); exact Rn.extract rfl rfl); (apply WL.rd; (exact rfl); exact Rn.extract rfl rfl); (apply WL.rd; (exact rfl); exact Rn.extract rfl rfl); (apply WL.rd; (exact rfl); exact Rn.assign rfl); (apply WL.rd; (exact rfl); exact Rn.assign rfl); (apply WL.rd; (exact rfl); exact Rn.assign rfl); (apply WL.rd; (exact rfl); exact Rn.assign rfl); (refine WL.nil ?_); (refine Cont.nx (by assumption) _ _ ?_); (refine W.seqK fun Q hQ => ?_); (refine W.region ?_); (apply WL.rd; (exact rfl); exact Rn.move rfl); ((refine WL.ex rfl (WO.callA Try.func66 rfl (by kernel_rfl) rfl (fun G hG => lnext_some (now := 6) (l' := []) (FirstT.only ⟨1, 5, 9⟩) (by decide) rfl h1) ?_); rintro v own' ⟨rfl, h2⟩)); (apply WL.rd; (exact rfl); exact Rn.move rfl); (apply WL.rd; (exact rfl); exact Rn.extract rfl rfl); (apply WL.rd; (exact rfl); exact Rn.extract rfl rfl); (apply WL.rd; (exact rfl); exact Rn.extract rfl rfl); (apply WL.rd; (exact rfl); exact Rn.extract rfl rfl); (apply WL.rd; (exact rfl); exact Rn.assign rfl); (apply WL.rd; (exact rfl); exact Rn.assign rfl); (apply WL.rd; (exact rfl); exact Rn.assign rfl); (apply WL.rd; (exact rfl); exact Rn.assign rfl); (refine WL.nil ?_); (refine Cont.nx (by assumption) _ _ ?_); (refine W.seqK fun Q hQ => ?_); (refine W.region ?_); (apply WL.rd; (exact rfl); exact Rn.move rfl); (apply WL.rd; (exact rfl); exact Rn.move rfl); (refine WL.yes rfl rfl ?_); (apply WL.rd; (exact rfl); exact Rn.move rfl); (refine WL.yes rfl rfl ?_); (apply WL.rd; (exact rfl); exact Rn.not rfl); (apply WL.rd; (exact rfl); exact Rn.pickT rfl rfl); (apply WL.rd; (exact rfl); exact Rn.move rfl); (refine WL.yes rfl rfl ?_); (apply WL.rd; (exact rfl); exact Rn.move rfl); (refine WL.yes rfl rfl ?_); (apply WL.rd; (exact rfl); exact Rn.not rfl); (apply WL.rd; (exact rfl); exact Rn.pickT rfl rfl); (apply WL.rd; (exact rfl); exact Rn.move rfl); (refine WL.yes rfl rfl ?_); (apply WL.rd; (exact rfl); exact Rn.move rfl); (apply WL.rd; (exact rfl); exact Rn.pickT rfl rfl); (apply WL.rd; (exact rfl); exact Rn.move rfl); (refine WL.yes rfl rfl ?_); (apply WL.rd; (exact rfl); exact Rn.move rfl); (refine WL.yes rfl rfl ?_); (apply WL.rd; (exact rfl); exact Rn.cmp rfl rfl rfl); (apply WL.rd; (exact rfl); exact Rn.pickT rfl rfl); (apply WL.rd; (exact rfl); exact Rn.move rfl); (refine WL.yes rfl rfl ?_); (apply WL.rd; (exact rfl); exact Rn.move rfl); (refine WL.yes rfl rfl ?_); (apply WL.rd; (exact rfl); exact Rn.cmp rfl rfl rfl); (apply WL.rd; (exact rfl); exact Rn.pickT rfl rfl); (apply WL.rd; (exact rfl); exact Rn.move rfl); (refine WL.yes rfl rfl ?_); (apply WL.rd; (exact rfl); exact Rn.move rfl); (refine WL.yes rfl rfl ?_); (apply WL.rd; (exact rfl); exact Rn.cmp rfl rfl rfl); (apply WL.rd; (exact rfl); exact Rn.pickT rfl rfl); (apply WL.rd; (exact rfl); exact Rn.move rfl); (refine WL.yes rfl rfl ?_); (apply WL.rd; (exact rfl); exact Rn.move rfl); (refine WL.yes rfl rfl ?_); ((refine WL.ex rfl (WO.callA Try.func63 rfl (by kernel_rfl) rfl (fun G hG => llen_eq (n := 0) rfl h2) ?_); rintro v own' ⟨rfl, rfl⟩)); (refine WL.yes rfl rfl ?_); (apply WL.rd; (exact rfl); exact Rn.cmp rfl rfl rfl); (apply WL.rd; (exact rfl); exact Rn.pickT rfl rfl); (apply WL.rd; (exact rfl); exact Rn.assign rfl); (refine WL.nil ?_); (refine Cont.nx (by assumption) _ _ ?_); (refine W.ret ?_))
  ((first | (apply X.ret1; (exact rfl); (exact rfl)) | (apply X.ret2; (exact rfl); (exact rfl); (exact rfl)) | (apply X.retSt; (exact rfl); infer_instance; infer_instance; (exact rfl); (exact rfl); (focus ((repeat (first | exact At.one | exact At.here (by assumption) | exact At.ro (by assumption) | apply At.there)); done)); (exact rfl)) | (apply X.retS; (exact rfl); infer_instance; infer_instance; (exact rfl); (focus ((repeat (first | exact At.one | exact At.here (by assumption) | exact At.ro (by assumption) | apply At.there)); done)); (exact rfl)) | (apply X.ret3; (exact rfl); (exact rfl); (exact rfl); (exact rfl)) | (apply X.ret4; (exact rfl); (exact rfl); (exact rfl); (exact rfl); (exact rfl)) | (apply X.ret0; (exact rfl)) | (apply X.end0; (exact rfl))); refine ⟨[], Keep.nil, ?_⟩)
  exact ⟨rfl, rfl⟩
theorem waitsA_any (A0 : Option Addr) (c0 : Nat) (xs : List AOpV) (id : Int) (F : Hp) (h0 : RowAt F [] A0 (xs.flatMap AOpV.enc)) (hfit : xs.length * 32 ≤ 140737488355328) : Spec Try.prog 59 [.slice A0 xs.length c0, .int .i64 id] F [] fun v hs => v = .bool (xs.any fun x => x.task == id) ∧ hs = [] := by
  refine Spec.enter Try.func59 rfl Try.ntmps59 rfl fun B => ?_
  ((refine W.seqK fun Q hQ => ?_); (refine W.region ?_); (apply WL.rd; (exact rfl); exact Rn.assign rfl); (refine WL.nil ?_); (refine Cont.nx (by assumption) _ _ ?_); (refine W.seqK fun Q hQ => ?_); (refine W.seqK fun Q hQ => ?_); (refine W.region ?_); (apply WL.rd; (exact rfl); exact Rn.assign rfl); (refine WL.nil ?_); (refine Cont.nx (by assumption) _ _ ?_); (refine W.blockK fun Q hQ => ?_))
  refine W.loopK (σ := Nat) ⟨fun k => k ≤ xs.length ∧ ((xs.take k).any fun x => x.task == id) = false, fun k => [(5, some (.int .i64 (k : Nat))), (0, some (.slice A0 xs.length c0)), (1, some (.int .i64 id))], fun _ => [], fun k => xs.length - k⟩ 0 ⟨Nat.zero_le _, rfl⟩ ⟨rfl, rfl, rfl, trivial⟩ Keep.nil fun k hk Q hL => ?_
  obtain ⟨hk, hf⟩ := hk
  dsimp only at hk hf ⊢
  ((refine W.seqK fun Q hQ => ?_); (refine W.seqK fun Q hQ => ?_); (refine W.region ?_); (apply WL.rd; (exact rfl); exact Rn.move rfl); (apply WL.rd; (exact rfl); exact Rn.move rfl); (apply WL.rd; (exact rfl); exact Rn.len rfl); (apply WL.rd; (exact rfl); exact Rn.cmp rfl rfl rfl); (refine WL.nil ?_); (refine Cont.nx (by assumption) _ _ ?_))
  refine W.cond rfl (fun h => ?_) (fun h => ?_) <;> (try simp only [beq_iff_eq, bne_iff_ne, decide_eq_true_eq, decide_eq_false_iff_not, beq_eq_false_iff_ne, bne_eq_false_iff_eq, Bool.not_true, Bool.not_false, ne_eq, Int.not_lt, Int.not_le, Bool.not_eq_true', Bool.not_eq_false', Bool.not_eq_eq_eq_not] at h)
  · have hlt : k < xs.length := by omega
    have hxk : xs[k]? = some xs[k] := List.getElem?_eq_getElem hlt
    generalize xs[k] = x at hxk
    obtain ⟨g, o, rfl, g1⟩ := h0.elem 4 (fun _ => rfl) (by omega) k x hxk
    have hnext : xs.take (k + 1) = xs.take k ++ [x] := by rw [List.take_add_one, hxk]; rfl
    ((refine W.skip ?_); (refine Cont.nx (by assumption) _ _ ?_); (refine W.seqK fun Q hQ => ?_); (refine W.blockK fun Q hQ => ?_); (refine W.seqK fun Q hQ => ?_); (refine W.region ?_); (apply WL.rd; (exact rfl); exact Rn.move rfl); (apply WL.rd; (exact rfl); exact Rn.move rfl); ((apply WL.rd; (exact rfl); (exact Rn.indexAddr k rfl rfl (by first | rfl | omega) (by omega)))); (apply WL.rd; (exact rfl); exact Rn.fieldAddr rfl); ((apply WL.rd; (exact rfl); (apply Rn.load; (exact rfl); (exact (CellsAt.weak g1 (by simp)) 1 _ rfl)))); (apply WL.rd; (exact rfl); exact Rn.move rfl); (apply WL.rd; (exact rfl); exact Rn.cmp rfl rfl rfl); (refine WL.nil ?_); (refine Cont.nx (by assumption) _ _ ?_))
    refine W.cond rfl (fun h2 => ?_) (fun h2 => ?_)
    · skip
      ((refine W.seqK fun Q hQ => ?_); (refine W.region ?_); (apply WL.rd; (exact rfl); exact Rn.assign rfl); (refine WL.nil ?_); (refine Cont.nx (by assumption) _ _ ?_); (refine W.ret ?_); (refine Blk.rt (by assumption) _ _ ?_); (refine Cont.rt (by assumption) _ _ ?_); (refine Again.rt (by assumption) _ _ ?_); (refine Blk.rt (by assumption) _ _ ?_); (refine Cont.rt (by assumption) _ _ ?_))
      ((first | (apply X.ret1; (exact rfl); (exact rfl)) | (apply X.ret2; (exact rfl); (exact rfl); (exact rfl)) | (apply X.retSt; (exact rfl); infer_instance; infer_instance; (exact rfl); (exact rfl); (focus ((repeat (first | exact At.one | exact At.here (by assumption) | exact At.ro (by assumption) | apply At.there)); done)); (exact rfl)) | (apply X.retS; (exact rfl); infer_instance; infer_instance; (exact rfl); (focus ((repeat (first | exact At.one | exact At.here (by assumption) | exact At.ro (by assumption) | apply At.there)); done)); (exact rfl)) | (apply X.ret3; (exact rfl); (exact rfl); (exact rfl); (exact rfl)) | (apply X.ret4; (exact rfl); (exact rfl); (exact rfl); (exact rfl); (exact rfl)) | (apply X.ret0; (exact rfl)) | (apply X.end0; (exact rfl))); refine ⟨[], Keep.nil, ?_⟩)
      have : (xs.any fun x => x.task == id) = true := List.any_eq_true.2 ⟨x, List.mem_of_getElem? hxk, h2⟩
      exact ⟨by rw [this], rfl⟩
    · skip
      ((refine W.skip ?_); (refine Blk.nx (by assumption) _ _ ?_); (refine Cont.nx (by assumption) _ _ ?_); (refine W.region ?_); (apply WL.rd; (exact rfl); exact Rn.move rfl); (apply WL.rd; (exact rfl); exact Rn.add rfl rfl (by omega)); (apply WL.rd; (exact rfl); exact Rn.assign rfl); (refine WL.nil ?_))
      refine hL.nx (k + 1) _ _ ⟨by omega, ?_⟩ (by dsimp only; omega) ⟨rfl, rfl, rfl, trivial⟩ Keep.nil
      rw [hnext, List.any_append, hf, List.any_cons, List.any_nil, h2]; rfl
  · have hkk : k = xs.length := by omega
    subst hkk
    rw [List.take_length] at hf
    ((refine W.exit ?_); (refine Cont.ex (by assumption) _ _ _ ?_); (refine Again.ex (by assumption) _ _ _ ?_); (refine Blk.ot (by assumption) _ _ ?_); (refine Cont.nx (by assumption) _ _ ?_); (refine W.seqK fun Q hQ => ?_); (refine W.region ?_); (apply WL.rd; (exact rfl); exact Rn.assign rfl); (refine WL.nil ?_); (refine Cont.nx (by assumption) _ _ ?_); (refine W.ret ?_))
    ((first | (apply X.ret1; (exact rfl); (exact rfl)) | (apply X.ret2; (exact rfl); (exact rfl); (exact rfl)) | (apply X.retSt; (exact rfl); infer_instance; infer_instance; (exact rfl); (exact rfl); (focus ((repeat (first | exact At.one | exact At.here (by assumption) | exact At.ro (by assumption) | apply At.there)); done)); (exact rfl)) | (apply X.retS; (exact rfl); infer_instance; infer_instance; (exact rfl); (focus ((repeat (first | exact At.one | exact At.here (by assumption) | exact At.ro (by assumption) | apply At.there)); done)); (exact rfl)) | (apply X.ret3; (exact rfl); (exact rfl); (exact rfl); (exact rfl)) | (apply X.ret4; (exact rfl); (exact rfl); (exact rfl); (exact rfl); (exact rfl)) | (apply X.ret0; (exact rfl)) | (apply X.end0; (exact rfl))); refine ⟨[], Keep.nil, ?_⟩)
    exact ⟨by rw [hf], rfl⟩
/-- where what comes first stands -/
def FirstIx (xs : List AOpV) (now : Int) (bv : Int) : Prop := (bv = -1 ∧ ∀ x ∈ xs.map toT, now < x.mom) ∨ ∃ (m : Nat) (z : AOpV), bv = (m : Nat) ∧ xs[m]? = some z ∧ z.mom ≤ now ∧ FirstT (xs.map toT) (toT z)
set_option maxHeartbeats 8000000 in
theorem firstA_any (A0 : Option Addr) (c0 : Nat) (xs : List AOpV) (now : Int) (F : Hp) (h0 : RowAt F [] A0 (xs.flatMap AOpV.enc)) (hfit : (xs.length + 1) * 32 ≤ 140737488355328) : Spec Try.prog 65 [.slice A0 xs.length c0, .int .i64 now] F [] fun v hs => ∃ bv, FirstIx xs now bv ∧ v = .int .i64 bv ∧ hs = [] := by
  refine Spec.enter Try.func65 rfl Try.ntmps65 rfl fun B => ?_
  ((refine W.seqK fun Q hQ => ?_); (refine W.region ?_); (apply WL.rd; (exact rfl); exact Rn.assign rfl); (refine WL.nil ?_); (refine Cont.nx (by assumption) _ _ ?_); (refine W.seqK fun Q hQ => ?_); (refine W.region ?_); (apply WL.rd; (exact rfl); exact Rn.assign rfl); (refine WL.nil ?_); (refine Cont.nx (by assumption) _ _ ?_); (refine W.seqK fun Q hQ => ?_); (refine W.seqK fun Q hQ => ?_); (refine W.region ?_); (apply WL.rd; (exact rfl); exact Rn.assign rfl); (refine WL.nil ?_); (refine Cont.nx (by assumption) _ _ ?_); (refine W.blockK fun Q hQ => ?_))
  refine W.loopK (σ := DuS) ⟨fun s => s.i ≤ xs.length ∧ BestT (xs.map toT) now s.i s.bv, fun s => [(6, some (.int .i64 (s.i : Nat))), (5, some (.int .i64 s.bv)), (0, some (.slice A0 xs.length c0)), (1, some (.int .i64 now))], fun s => [], fun s => xs.length - s.i⟩ ⟨0, -1⟩ ⟨Nat.zero_le _, .inl ⟨rfl, fun j y hj => absurd hj (Nat.not_lt_zero _)⟩⟩ ⟨rfl, rfl, rfl, rfl, trivial⟩ (by (focus ((repeat (first | exact Keep.nil | (apply Keep.cons; (focus ((repeat (first | exact Take.here | apply Take.there)); done))))); done))) ?_
  rintro ⟨i, bv⟩ ⟨hi, hb⟩ Q hL
  dsimp only at hi hb ⊢
  ((refine W.seqK fun Q hQ => ?_); (refine W.seqK fun Q hQ => ?_); (refine W.region ?_); (apply WL.rd; (exact rfl); exact Rn.move rfl); (apply WL.rd; (exact rfl); exact Rn.move rfl); (apply WL.rd; (exact rfl); exact Rn.len rfl); (apply WL.rd; (exact rfl); exact Rn.cmp rfl rfl rfl); (refine WL.nil ?_); (refine Cont.nx (by assumption) _ _ ?_))
  refine W.cond rfl (fun h => ?_) (fun h => ?_) <;> (try simp only [beq_iff_eq, bne_iff_ne, decide_eq_true_eq, decide_eq_false_iff_not, beq_eq_false_iff_ne, bne_eq_false_iff_eq, Bool.not_true, Bool.not_false, ne_eq, Int.not_lt, Int.not_le, Bool.not_eq_true', Bool.not_eq_false', Bool.not_eq_eq_eq_not] at h)
  · have hlt : i < xs.length := by omega
    have hxi : xs[i]? = some xs[i] := List.getElem?_eq_getElem hlt
    generalize xs[i] = x at hxi
    have txi := toT_get hxi
    obtain ⟨g, o, rfl, g1⟩ := h0.elem 4 (fun _ => rfl) (by omega) i x hxi
    by_cases c1 : x.mom ≤ now
    · rcases hb with ⟨rfl, hb⟩ | ⟨m, z', rfl, hm, tz, hzn, hb⟩
      · skip
        ((refine W.skip ?_); (refine Cont.nx (by assumption) _ _ ?_); (refine W.seqK fun Q hQ => ?_); (refine W.blockK fun Q hQ => ?_); (refine W.seqK fun Q hQ => ?_))
        refine W.draw [] [] (by kernel_rfl) rfl (by kernel_rfl) (by (repeat (first | exact NP.body | refine Cont.np (by assumption) ?_ | refine Blk.np (by assumption) ?_ | refine Again.np (by assumption) ?_ | refine Scp.np (by assumption) ?_ | refine Met.np (by assumption) ?_))) (by (repeat (first | exact Pin.nil | (apply Pin.cons; (exact rfl); (focus ((repeat (first | exact Take.here | apply Take.there)); done)))))) ?_
        refine WA.tp (i := 0) (ls := bts 50 1) rfl rfl (by kernel_rfl) (Rn.move rfl) ?_
        refine WA.tp (i := 1) (ls := bts 50 3) rfl rfl (by kernel_rfl) (Rn.move rfl) ?_
        refine WA.tp (i := 2) (ls := bts 50 7) rfl rfl (by kernel_rfl) (by (exact Rn.indexAddr i rfl rfl rfl hlt)) ?_
        refine WA.tp (i := 3) (ls := bts 50 15) rfl rfl (by kernel_rfl) (by first | exact Rn.fieldAddr0 rfl | exact Rn.fieldAddr rfl) ?_
        refine WA.tp (i := 4) (ls := bts 50 31) rfl rfl (by kernel_rfl) (by (apply Rn.load; (exact rfl); (exact (CellsAt.weak g1 (by simp)) 2 _ rfl))) ?_
        refine WA.tp (i := 5) (ls := bts 50 63) rfl rfl (by kernel_rfl) (Rn.move rfl) ?_
        refine WA.tp (i := 6) (ls := bts 50 127) rfl rfl (by kernel_rfl) (by (exact Rn.cmp (b := true) rfl rfl (congrArg some (decide_eq_true c1)))) ?_
        refine WA.tp (i := 7) (ls := bts 50 255) rfl rfl (by kernel_rfl) (Rn.move rfl) ?_
        refine WA.tpY (i := 8) (ls := bts 50 511) rfl rfl rfl rfl (by kernel_rfl) (Rn.move rfl) ?_
        refine WA.tpY (i := 9) (ls := bts 50 1023) rfl rfl rfl rfl (by kernel_rfl) (by (exact Rn.cmp (b := true) rfl rfl (congrArg some rfl))) ?_
        refine WA.tpY (i := 10) (ls := bts 50 2047) rfl rfl rfl rfl (by kernel_rfl) (Rn.move rfl) ?_
        first | refine WA.tn (i := 11) (ls := bts 50 4095) rfl rfl rfl rfl rfl (by kernel_rfl) ?_ | refine WA.tnU (i := 11) (ls := bts 50 4095) rfl rfl rfl rfl (by kernel_rfl) ?_
        first | refine WA.tn (i := 12) (ls := bts 50 8191) rfl rfl rfl rfl rfl (by kernel_rfl) ?_ | refine WA.tnU (i := 12) (ls := bts 50 8191) rfl rfl rfl rfl (by kernel_rfl) ?_
        first | refine WA.tn (i := 13) (ls := bts 50 16383) rfl rfl rfl rfl rfl (by kernel_rfl) ?_ | refine WA.tnU (i := 13) (ls := bts 50 16383) rfl rfl rfl rfl (by kernel_rfl) ?_
        first | refine WA.tn (i := 14) (ls := bts 50 32767) rfl rfl rfl rfl rfl (by kernel_rfl) ?_ | refine WA.tnU (i := 14) (ls := bts 50 32767) rfl rfl rfl rfl (by kernel_rfl) ?_
        first | refine WA.tn (i := 15) (ls := bts 50 65535) rfl rfl rfl rfl rfl (by kernel_rfl) ?_ | refine WA.tnU (i := 15) (ls := bts 50 65535) rfl rfl rfl rfl (by kernel_rfl) ?_
        first | refine WA.tn (i := 16) (ls := bts 50 131071) rfl rfl rfl rfl rfl (by kernel_rfl) ?_ | refine WA.tnU (i := 16) (ls := bts 50 131071) rfl rfl rfl rfl (by kernel_rfl) ?_
        first | refine WA.tn (i := 17) (ls := bts 50 262143) rfl rfl rfl rfl rfl (by kernel_rfl) ?_ | refine WA.tnU (i := 17) (ls := bts 50 262143) rfl rfl rfl rfl (by kernel_rfl) ?_
        first | refine WA.tn (i := 18) (ls := bts 50 524287) rfl rfl rfl rfl rfl (by kernel_rfl) ?_ | refine WA.tnU (i := 18) (ls := bts 50 524287) rfl rfl rfl rfl (by kernel_rfl) ?_
        first | refine WA.tn (i := 19) (ls := bts 50 1048575) rfl rfl rfl rfl rfl (by kernel_rfl) ?_ | refine WA.tnU (i := 19) (ls := bts 50 1048575) rfl rfl rfl rfl (by kernel_rfl) ?_
        first | refine WA.tn (i := 20) (ls := bts 50 2097151) rfl rfl rfl rfl rfl (by kernel_rfl) ?_ | refine WA.tnU (i := 20) (ls := bts 50 2097151) rfl rfl rfl rfl (by kernel_rfl) ?_
        first | refine WA.tn (i := 21) (ls := bts 50 4194303) rfl rfl rfl rfl rfl (by kernel_rfl) ?_ | refine WA.tnU (i := 21) (ls := bts 50 4194303) rfl rfl rfl rfl (by kernel_rfl) ?_
        refine WA.tpY (i := 22) (ls := bts 50 8388607) rfl rfl rfl rfl (by kernel_rfl) (by first | exact Rn.pickT rfl rfl | exact Rn.pickF rfl rfl) ?_
        refine WA.tpY (i := 23) (ls := bts 50 16777215) rfl rfl rfl rfl (by kernel_rfl) (Rn.move rfl) ?_
        first | refine WA.tn (i := 24) (ls := bts 50 33554431) rfl rfl rfl rfl rfl (by kernel_rfl) ?_ | refine WA.tnU (i := 24) (ls := bts 50 33554431) rfl rfl rfl rfl (by kernel_rfl) ?_
        first | refine WA.tn (i := 25) (ls := bts 50 67108863) rfl rfl rfl rfl rfl (by kernel_rfl) ?_ | refine WA.tnU (i := 25) (ls := bts 50 67108863) rfl rfl rfl rfl (by kernel_rfl) ?_
        first | refine WA.tn (i := 26) (ls := bts 50 134217727) rfl rfl rfl rfl rfl (by kernel_rfl) ?_ | refine WA.tnU (i := 26) (ls := bts 50 134217727) rfl rfl rfl rfl (by kernel_rfl) ?_
        first | refine WA.tn (i := 27) (ls := bts 50 268435455) rfl rfl rfl rfl rfl (by kernel_rfl) ?_ | refine WA.tnU (i := 27) (ls := bts 50 268435455) rfl rfl rfl rfl (by kernel_rfl) ?_
        first | refine WA.tn (i := 28) (ls := bts 50 536870911) rfl rfl rfl rfl rfl (by kernel_rfl) ?_ | refine WA.tnU (i := 28) (ls := bts 50 536870911) rfl rfl rfl rfl (by kernel_rfl) ?_
        first | refine WA.tn (i := 29) (ls := bts 50 1073741823) rfl rfl rfl rfl rfl (by kernel_rfl) ?_ | refine WA.tnU (i := 29) (ls := bts 50 1073741823) rfl rfl rfl rfl (by kernel_rfl) ?_
        first | refine WA.tn (i := 30) (ls := bts 50 2147483647) rfl rfl rfl rfl rfl (by kernel_rfl) ?_ | refine WA.tnU (i := 30) (ls := bts 50 2147483647) rfl rfl rfl rfl (by kernel_rfl) ?_
        first | refine WA.tn (i := 31) (ls := bts 50 4294967295) rfl rfl rfl rfl rfl (by kernel_rfl) ?_ | refine WA.tnU (i := 31) (ls := bts 50 4294967295) rfl rfl rfl rfl (by kernel_rfl) ?_
        first | refine WA.tn (i := 32) (ls := bts 50 8589934591) rfl rfl rfl rfl rfl (by kernel_rfl) ?_ | refine WA.tnU (i := 32) (ls := bts 50 8589934591) rfl rfl rfl rfl (by kernel_rfl) ?_
        first | refine WA.tn (i := 33) (ls := bts 50 17179869183) rfl rfl rfl rfl rfl (by kernel_rfl) ?_ | refine WA.tnU (i := 33) (ls := bts 50 17179869183) rfl rfl rfl rfl (by kernel_rfl) ?_
        first | refine WA.tn (i := 34) (ls := bts 50 34359738367) rfl rfl rfl rfl rfl (by kernel_rfl) ?_ | refine WA.tnU (i := 34) (ls := bts 50 34359738367) rfl rfl rfl rfl (by kernel_rfl) ?_
        first | refine WA.tn (i := 35) (ls := bts 50 68719476735) rfl rfl rfl rfl rfl (by kernel_rfl) ?_ | refine WA.tnU (i := 35) (ls := bts 50 68719476735) rfl rfl rfl rfl (by kernel_rfl) ?_
        first | refine WA.tn (i := 36) (ls := bts 50 137438953471) rfl rfl rfl rfl rfl (by kernel_rfl) ?_ | refine WA.tnU (i := 36) (ls := bts 50 137438953471) rfl rfl rfl rfl (by kernel_rfl) ?_
        first | refine WA.tn (i := 37) (ls := bts 50 274877906943) rfl rfl rfl rfl rfl (by kernel_rfl) ?_ | refine WA.tnU (i := 37) (ls := bts 50 274877906943) rfl rfl rfl rfl (by kernel_rfl) ?_
        first | refine WA.tn (i := 38) (ls := bts 50 549755813887) rfl rfl rfl rfl rfl (by kernel_rfl) ?_ | refine WA.tnU (i := 38) (ls := bts 50 549755813887) rfl rfl rfl rfl (by kernel_rfl) ?_
        first | refine WA.tn (i := 39) (ls := bts 50 1099511627775) rfl rfl rfl rfl rfl (by kernel_rfl) ?_ | refine WA.tnU (i := 39) (ls := bts 50 1099511627775) rfl rfl rfl rfl (by kernel_rfl) ?_
        first | refine WA.tn (i := 40) (ls := bts 50 2199023255551) rfl rfl rfl rfl rfl (by kernel_rfl) ?_ | refine WA.tnU (i := 40) (ls := bts 50 2199023255551) rfl rfl rfl rfl (by kernel_rfl) ?_
        first | refine WA.tn (i := 41) (ls := bts 50 4398046511103) rfl rfl rfl rfl rfl (by kernel_rfl) ?_ | refine WA.tnU (i := 41) (ls := bts 50 4398046511103) rfl rfl rfl rfl (by kernel_rfl) ?_
        first | refine WA.tn (i := 42) (ls := bts 50 8796093022207) rfl rfl rfl rfl rfl (by kernel_rfl) ?_ | refine WA.tnU (i := 42) (ls := bts 50 8796093022207) rfl rfl rfl rfl (by kernel_rfl) ?_
        first | refine WA.tn (i := 43) (ls := bts 50 17592186044415) rfl rfl rfl rfl rfl (by kernel_rfl) ?_ | refine WA.tnU (i := 43) (ls := bts 50 17592186044415) rfl rfl rfl rfl (by kernel_rfl) ?_
        first | refine WA.tn (i := 44) (ls := bts 50 35184372088831) rfl rfl rfl rfl rfl (by kernel_rfl) ?_ | refine WA.tnU (i := 44) (ls := bts 50 35184372088831) rfl rfl rfl rfl (by kernel_rfl) ?_
        first | refine WA.tn (i := 45) (ls := bts 50 70368744177663) rfl rfl rfl rfl rfl (by kernel_rfl) ?_ | refine WA.tnU (i := 45) (ls := bts 50 70368744177663) rfl rfl rfl rfl (by kernel_rfl) ?_
        first | refine WA.tn (i := 46) (ls := bts 50 140737488355327) rfl rfl rfl rfl rfl (by kernel_rfl) ?_ | refine WA.tnU (i := 46) (ls := bts 50 140737488355327) rfl rfl rfl rfl (by kernel_rfl) ?_
        first | refine WA.tn (i := 47) (ls := bts 50 281474976710655) rfl rfl rfl rfl rfl (by kernel_rfl) ?_ | refine WA.tnU (i := 47) (ls := bts 50 281474976710655) rfl rfl rfl rfl (by kernel_rfl) ?_
        refine WA.tpY (i := 48) (ls := bts 50 562949953421311) rfl rfl rfl rfl (by kernel_rfl) (by first | exact Rn.pickT rfl rfl | exact Rn.pickF rfl rfl) ?_
        refine WA.tp (i := 49) (ls := bts 50 1125899906842623) rfl rfl (by kernel_rfl) (by first | exact Rn.pickT rfl rfl | exact Rn.pickF rfl rfl) ?_
        refine WA.done (by kernel_rfl) ?_
        ((refine Cont.nx (by assumption) _ _ ?_); (refine W.condT rfl ?_); (refine W.region ?_); (apply WL.rd; (exact rfl); exact Rn.move rfl); (apply WL.rd; (exact rfl); exact Rn.assign rfl); (refine WL.nil ?_); (refine Blk.nx (by assumption) _ _ ?_); (refine Cont.nx (by assumption) _ _ ?_); (refine W.region ?_); (apply WL.rd; (exact rfl); exact Rn.move rfl); (apply WL.rd; (exact rfl); exact Rn.add rfl rfl (by omega)); (apply WL.rd; (exact rfl); exact Rn.assign rfl); (refine WL.nil ?_))
        exact hL.nx ⟨i + 1, i⟩ _ _ ⟨by dsimp only; omega, BestT.first hb txi c1⟩ (by dsimp only; omega) ⟨rfl, rfl, rfl, rfl, trivial⟩ (by (focus ((repeat (first | exact Keep.nil | (apply Keep.cons; (focus ((repeat (first | exact Take.here | apply Take.there)); done))))); done)))
      · have hltm : m < xs.length := by omega
        have hz : xs[m]? = some xs[m] := List.getElem?_eq_getElem hltm
        generalize xs[m] = z at hz
        have ez : z' = toT z := by rw [toT_get hz] at tz; exact (Option.some.inj tz).symm
        subst ez
        obtain ⟨g', o', e', g2⟩ := h0.elem 4 (fun _ => rfl) (by omega) m z hz
        cases e'
        by_cases c2 : x.mom < z.mom
        · skip
          ((refine W.skip ?_); (refine Cont.nx (by assumption) _ _ ?_); (refine W.seqK fun Q hQ => ?_); (refine W.blockK fun Q hQ => ?_); (refine W.seqK fun Q hQ => ?_))
          refine W.draw [] [] (by kernel_rfl) rfl (by kernel_rfl) (by (repeat (first | exact NP.body | refine Cont.np (by assumption) ?_ | refine Blk.np (by assumption) ?_ | refine Again.np (by assumption) ?_ | refine Scp.np (by assumption) ?_ | refine Met.np (by assumption) ?_))) (by (repeat (first | exact Pin.nil | (apply Pin.cons; (exact rfl); (focus ((repeat (first | exact Take.here | apply Take.there)); done)))))) ?_
          refine WA.tp (i := 0) (ls := bts 50 1) rfl rfl (by kernel_rfl) (Rn.move rfl) ?_
          refine WA.tp (i := 1) (ls := bts 50 3) rfl rfl (by kernel_rfl) (Rn.move rfl) ?_
          refine WA.tp (i := 2) (ls := bts 50 7) rfl rfl (by kernel_rfl) (by (exact Rn.indexAddr i rfl rfl rfl hlt)) ?_
          refine WA.tp (i := 3) (ls := bts 50 15) rfl rfl (by kernel_rfl) (by first | exact Rn.fieldAddr0 rfl | exact Rn.fieldAddr rfl) ?_
          refine WA.tp (i := 4) (ls := bts 50 31) rfl rfl (by kernel_rfl) (by (apply Rn.load; (exact rfl); (exact (CellsAt.weak g1 (by simp)) 2 _ rfl))) ?_
          refine WA.tp (i := 5) (ls := bts 50 63) rfl rfl (by kernel_rfl) (Rn.move rfl) ?_
          refine WA.tp (i := 6) (ls := bts 50 127) rfl rfl (by kernel_rfl) (by (exact Rn.cmp (b := true) rfl rfl (congrArg some (decide_eq_true c1)))) ?_
          refine WA.tp (i := 7) (ls := bts 50 255) rfl rfl (by kernel_rfl) (Rn.move rfl) ?_
          refine WA.tpY (i := 8) (ls := bts 50 511) rfl rfl rfl rfl (by kernel_rfl) (Rn.move rfl) ?_
          refine WA.tpY (i := 9) (ls := bts 50 1023) rfl rfl rfl rfl (by kernel_rfl) (by (exact Rn.cmp (b := false) rfl rfl (congrArg some (decide_eq_false (by omega))))) ?_
          refine WA.tpY (i := 10) (ls := bts 50 2047) rfl rfl rfl rfl (by kernel_rfl) (Rn.move rfl) ?_
          refine WA.tpY (i := 11) (ls := bts 50 4095) rfl rfl rfl rfl (by kernel_rfl) (Rn.move rfl) ?_
          refine WA.tpY (i := 12) (ls := bts 50 8191) rfl rfl rfl rfl (by kernel_rfl) (Rn.move rfl) ?_
          refine WA.tpY (i := 13) (ls := bts 50 16383) rfl rfl rfl rfl (by kernel_rfl) (by (exact Rn.indexAddr i rfl rfl rfl hlt)) ?_
          refine WA.tpY (i := 14) (ls := bts 50 32767) rfl rfl rfl rfl (by kernel_rfl) (by first | exact Rn.fieldAddr0 rfl | exact Rn.fieldAddr rfl) ?_
          refine WA.tpY (i := 15) (ls := bts 50 65535) rfl rfl rfl rfl (by kernel_rfl) (by (apply Rn.load; (exact rfl); (exact (CellsAt.weak g1 (by simp)) 2 _ rfl))) ?_
          refine WA.tpY (i := 16) (ls := bts 50 131071) rfl rfl rfl rfl (by kernel_rfl) (Rn.move rfl) ?_
          refine WA.tpY (i := 17) (ls := bts 50 262143) rfl rfl rfl rfl (by kernel_rfl) (Rn.move rfl) ?_
          refine WA.tpY (i := 18) (ls := bts 50 524287) rfl rfl rfl rfl (by kernel_rfl) (by (exact Rn.indexAddr m rfl rfl rfl hltm)) ?_
          refine WA.tpY (i := 19) (ls := bts 50 1048575) rfl rfl rfl rfl (by kernel_rfl) (by first | exact Rn.fieldAddr0 rfl | exact Rn.fieldAddr rfl) ?_
          refine WA.tpY (i := 20) (ls := bts 50 2097151) rfl rfl rfl rfl (by kernel_rfl) (by (apply Rn.load; (exact rfl); (exact (CellsAt.weak g2 (by simp)) 2 _ rfl))) ?_
          refine WA.tpY (i := 21) (ls := bts 50 4194303) rfl rfl rfl rfl (by kernel_rfl) (by (exact Rn.cmp (b := true) rfl rfl (congrArg some (decide_eq_true c2)))) ?_
          refine WA.tpY (i := 22) (ls := bts 50 8388607) rfl rfl rfl rfl (by kernel_rfl) (by first | exact Rn.pickT rfl rfl | exact Rn.pickF rfl rfl) ?_
          refine WA.tpY (i := 23) (ls := bts 50 16777215) rfl rfl rfl rfl (by kernel_rfl) (Rn.move rfl) ?_
          first | refine WA.tn (i := 24) (ls := bts 50 33554431) rfl rfl rfl rfl rfl (by kernel_rfl) ?_ | refine WA.tnU (i := 24) (ls := bts 50 33554431) rfl rfl rfl rfl (by kernel_rfl) ?_
          first | refine WA.tn (i := 25) (ls := bts 50 67108863) rfl rfl rfl rfl rfl (by kernel_rfl) ?_ | refine WA.tnU (i := 25) (ls := bts 50 67108863) rfl rfl rfl rfl (by kernel_rfl) ?_
          first | refine WA.tn (i := 26) (ls := bts 50 134217727) rfl rfl rfl rfl rfl (by kernel_rfl) ?_ | refine WA.tnU (i := 26) (ls := bts 50 134217727) rfl rfl rfl rfl (by kernel_rfl) ?_
          first | refine WA.tn (i := 27) (ls := bts 50 268435455) rfl rfl rfl rfl rfl (by kernel_rfl) ?_ | refine WA.tnU (i := 27) (ls := bts 50 268435455) rfl rfl rfl rfl (by kernel_rfl) ?_
          first | refine WA.tn (i := 28) (ls := bts 50 536870911) rfl rfl rfl rfl rfl (by kernel_rfl) ?_ | refine WA.tnU (i := 28) (ls := bts 50 536870911) rfl rfl rfl rfl (by kernel_rfl) ?_
          first | refine WA.tn (i := 29) (ls := bts 50 1073741823) rfl rfl rfl rfl rfl (by kernel_rfl) ?_ | refine WA.tnU (i := 29) (ls := bts 50 1073741823) rfl rfl rfl rfl (by kernel_rfl) ?_
          first | refine WA.tn (i := 30) (ls := bts 50 2147483647) rfl rfl rfl rfl rfl (by kernel_rfl) ?_ | refine WA.tnU (i := 30) (ls := bts 50 2147483647) rfl rfl rfl rfl (by kernel_rfl) ?_
          first | refine WA.tn (i := 31) (ls := bts 50 4294967295) rfl rfl rfl rfl rfl (by kernel_rfl) ?_ | refine WA.tnU (i := 31) (ls := bts 50 4294967295) rfl rfl rfl rfl (by kernel_rfl) ?_
          first | refine WA.tn (i := 32) (ls := bts 50 8589934591) rfl rfl rfl rfl rfl (by kernel_rfl) ?_ | refine WA.tnU (i := 32) (ls := bts 50 8589934591) rfl rfl rfl rfl (by kernel_rfl) ?_
          first | refine WA.tn (i := 33) (ls := bts 50 17179869183) rfl rfl rfl rfl rfl (by kernel_rfl) ?_ | refine WA.tnU (i := 33) (ls := bts 50 17179869183) rfl rfl rfl rfl (by kernel_rfl) ?_
          first | refine WA.tn (i := 34) (ls := bts 50 34359738367) rfl rfl rfl rfl rfl (by kernel_rfl) ?_ | refine WA.tnU (i := 34) (ls := bts 50 34359738367) rfl rfl rfl rfl (by kernel_rfl) ?_
          first | refine WA.tn (i := 35) (ls := bts 50 68719476735) rfl rfl rfl rfl rfl (by kernel_rfl) ?_ | refine WA.tnU (i := 35) (ls := bts 50 68719476735) rfl rfl rfl rfl (by kernel_rfl) ?_
          first | refine WA.tn (i := 36) (ls := bts 50 137438953471) rfl rfl rfl rfl rfl (by kernel_rfl) ?_ | refine WA.tnU (i := 36) (ls := bts 50 137438953471) rfl rfl rfl rfl (by kernel_rfl) ?_
          first | refine WA.tn (i := 37) (ls := bts 50 274877906943) rfl rfl rfl rfl rfl (by kernel_rfl) ?_ | refine WA.tnU (i := 37) (ls := bts 50 274877906943) rfl rfl rfl rfl (by kernel_rfl) ?_
          first | refine WA.tn (i := 38) (ls := bts 50 549755813887) rfl rfl rfl rfl rfl (by kernel_rfl) ?_ | refine WA.tnU (i := 38) (ls := bts 50 549755813887) rfl rfl rfl rfl (by kernel_rfl) ?_
          first | refine WA.tn (i := 39) (ls := bts 50 1099511627775) rfl rfl rfl rfl rfl (by kernel_rfl) ?_ | refine WA.tnU (i := 39) (ls := bts 50 1099511627775) rfl rfl rfl rfl (by kernel_rfl) ?_
          first | refine WA.tn (i := 40) (ls := bts 50 2199023255551) rfl rfl rfl rfl rfl (by kernel_rfl) ?_ | refine WA.tnU (i := 40) (ls := bts 50 2199023255551) rfl rfl rfl rfl (by kernel_rfl) ?_
          first | refine WA.tn (i := 41) (ls := bts 50 4398046511103) rfl rfl rfl rfl rfl (by kernel_rfl) ?_ | refine WA.tnU (i := 41) (ls := bts 50 4398046511103) rfl rfl rfl rfl (by kernel_rfl) ?_
          first | refine WA.tn (i := 42) (ls := bts 50 8796093022207) rfl rfl rfl rfl rfl (by kernel_rfl) ?_ | refine WA.tnU (i := 42) (ls := bts 50 8796093022207) rfl rfl rfl rfl (by kernel_rfl) ?_
          first | refine WA.tn (i := 43) (ls := bts 50 17592186044415) rfl rfl rfl rfl rfl (by kernel_rfl) ?_ | refine WA.tnU (i := 43) (ls := bts 50 17592186044415) rfl rfl rfl rfl (by kernel_rfl) ?_
          first | refine WA.tn (i := 44) (ls := bts 50 35184372088831) rfl rfl rfl rfl rfl (by kernel_rfl) ?_ | refine WA.tnU (i := 44) (ls := bts 50 35184372088831) rfl rfl rfl rfl (by kernel_rfl) ?_
          first | refine WA.tn (i := 45) (ls := bts 50 70368744177663) rfl rfl rfl rfl rfl (by kernel_rfl) ?_ | refine WA.tnU (i := 45) (ls := bts 50 70368744177663) rfl rfl rfl rfl (by kernel_rfl) ?_
          first | refine WA.tn (i := 46) (ls := bts 50 140737488355327) rfl rfl rfl rfl rfl (by kernel_rfl) ?_ | refine WA.tnU (i := 46) (ls := bts 50 140737488355327) rfl rfl rfl rfl (by kernel_rfl) ?_
          first | refine WA.tn (i := 47) (ls := bts 50 281474976710655) rfl rfl rfl rfl rfl (by kernel_rfl) ?_ | refine WA.tnU (i := 47) (ls := bts 50 281474976710655) rfl rfl rfl rfl (by kernel_rfl) ?_
          refine WA.tpY (i := 48) (ls := bts 50 562949953421311) rfl rfl rfl rfl (by kernel_rfl) (by first | exact Rn.pickT rfl rfl | exact Rn.pickF rfl rfl) ?_
          refine WA.tp (i := 49) (ls := bts 50 1125899906842623) rfl rfl (by kernel_rfl) (by first | exact Rn.pickT rfl rfl | exact Rn.pickF rfl rfl) ?_
          refine WA.done (by kernel_rfl) ?_
          ((refine Cont.nx (by assumption) _ _ ?_); (refine W.condT rfl ?_); (refine W.region ?_); (apply WL.rd; (exact rfl); exact Rn.move rfl); (apply WL.rd; (exact rfl); exact Rn.assign rfl); (refine WL.nil ?_); (refine Blk.nx (by assumption) _ _ ?_); (refine Cont.nx (by assumption) _ _ ?_); (refine W.region ?_); (apply WL.rd; (exact rfl); exact Rn.move rfl); (apply WL.rd; (exact rfl); exact Rn.add rfl rfl (by omega)); (apply WL.rd; (exact rfl); exact Rn.assign rfl); (refine WL.nil ?_))
          exact hL.nx ⟨i + 1, i⟩ _ _ ⟨by dsimp only; omega, BestT.turn hb txi c1 (by rw [ahead_iff]; exact .inl c2)⟩ (by dsimp only; omega) ⟨rfl, rfl, rfl, rfl, trivial⟩ (by (focus ((repeat (first | exact Keep.nil | (apply Keep.cons; (focus ((repeat (first | exact Take.here | apply Take.there)); done))))); done)))
        · by_cases c3 : x.mom = z.mom
          · by_cases c4 : x.task < z.task
            · skip
              ((refine W.skip ?_); (refine Cont.nx (by assumption) _ _ ?_); (refine W.seqK fun Q hQ => ?_); (refine W.blockK fun Q hQ => ?_); (refine W.seqK fun Q hQ => ?_))
              refine W.draw [] [] (by kernel_rfl) rfl (by kernel_rfl) (by (repeat (first | exact NP.body | refine Cont.np (by assumption) ?_ | refine Blk.np (by assumption) ?_ | refine Again.np (by assumption) ?_ | refine Scp.np (by assumption) ?_ | refine Met.np (by assumption) ?_))) (by (repeat (first | exact Pin.nil | (apply Pin.cons; (exact rfl); (focus ((repeat (first | exact Take.here | apply Take.there)); done)))))) ?_
              refine WA.tp (i := 0) (ls := bts 50 1) rfl rfl (by kernel_rfl) (Rn.move rfl) ?_
              refine WA.tp (i := 1) (ls := bts 50 3) rfl rfl (by kernel_rfl) (Rn.move rfl) ?_
              refine WA.tp (i := 2) (ls := bts 50 7) rfl rfl (by kernel_rfl) (by (exact Rn.indexAddr i rfl rfl rfl hlt)) ?_
              refine WA.tp (i := 3) (ls := bts 50 15) rfl rfl (by kernel_rfl) (by first | exact Rn.fieldAddr0 rfl | exact Rn.fieldAddr rfl) ?_
              refine WA.tp (i := 4) (ls := bts 50 31) rfl rfl (by kernel_rfl) (by (apply Rn.load; (exact rfl); (exact (CellsAt.weak g1 (by simp)) 2 _ rfl))) ?_
              refine WA.tp (i := 5) (ls := bts 50 63) rfl rfl (by kernel_rfl) (Rn.move rfl) ?_
              refine WA.tp (i := 6) (ls := bts 50 127) rfl rfl (by kernel_rfl) (by (exact Rn.cmp (b := true) rfl rfl (congrArg some (decide_eq_true c1)))) ?_
              refine WA.tp (i := 7) (ls := bts 50 255) rfl rfl (by kernel_rfl) (Rn.move rfl) ?_
              refine WA.tpY (i := 8) (ls := bts 50 511) rfl rfl rfl rfl (by kernel_rfl) (Rn.move rfl) ?_
              refine WA.tpY (i := 9) (ls := bts 50 1023) rfl rfl rfl rfl (by kernel_rfl) (by (exact Rn.cmp (b := false) rfl rfl (congrArg some (decide_eq_false (by omega))))) ?_
              refine WA.tpY (i := 10) (ls := bts 50 2047) rfl rfl rfl rfl (by kernel_rfl) (Rn.move rfl) ?_
              refine WA.tpY (i := 11) (ls := bts 50 4095) rfl rfl rfl rfl (by kernel_rfl) (Rn.move rfl) ?_
              refine WA.tpY (i := 12) (ls := bts 50 8191) rfl rfl rfl rfl (by kernel_rfl) (Rn.move rfl) ?_
              refine WA.tpY (i := 13) (ls := bts 50 16383) rfl rfl rfl rfl (by kernel_rfl) (by (exact Rn.indexAddr i rfl rfl rfl hlt)) ?_
              refine WA.tpY (i := 14) (ls := bts 50 32767) rfl rfl rfl rfl (by kernel_rfl) (by first | exact Rn.fieldAddr0 rfl | exact Rn.fieldAddr rfl) ?_
              refine WA.tpY (i := 15) (ls := bts 50 65535) rfl rfl rfl rfl (by kernel_rfl) (by (apply Rn.load; (exact rfl); (exact (CellsAt.weak g1 (by simp)) 2 _ rfl))) ?_
              refine WA.tpY (i := 16) (ls := bts 50 131071) rfl rfl rfl rfl (by kernel_rfl) (Rn.move rfl) ?_
              refine WA.tpY (i := 17) (ls := bts 50 262143) rfl rfl rfl rfl (by kernel_rfl) (Rn.move rfl) ?_
              refine WA.tpY (i := 18) (ls := bts 50 524287) rfl rfl rfl rfl (by kernel_rfl) (by (exact Rn.indexAddr m rfl rfl rfl hltm)) ?_
              refine WA.tpY (i := 19) (ls := bts 50 1048575) rfl rfl rfl rfl (by kernel_rfl) (by first | exact Rn.fieldAddr0 rfl | exact Rn.fieldAddr rfl) ?_
              refine WA.tpY (i := 20) (ls := bts 50 2097151) rfl rfl rfl rfl (by kernel_rfl) (by (apply Rn.load; (exact rfl); (exact (CellsAt.weak g2 (by simp)) 2 _ rfl))) ?_
              refine WA.tpY (i := 21) (ls := bts 50 4194303) rfl rfl rfl rfl (by kernel_rfl) (by (exact Rn.cmp (b := false) rfl rfl (congrArg some (decide_eq_false c2)))) ?_
              refine WA.tpY (i := 22) (ls := bts 50 8388607) rfl rfl rfl rfl (by kernel_rfl) (by first | exact Rn.pickT rfl rfl | exact Rn.pickF rfl rfl) ?_
              refine WA.tpY (i := 23) (ls := bts 50 16777215) rfl rfl rfl rfl (by kernel_rfl) (Rn.move rfl) ?_
              refine WA.tpY (i := 24) (ls := bts 50 33554431) rfl rfl rfl rfl (by kernel_rfl) (Rn.move rfl) ?_
              refine WA.tpY (i := 25) (ls := bts 50 67108863) rfl rfl rfl rfl (by kernel_rfl) (Rn.move rfl) ?_
              refine WA.tpY (i := 26) (ls := bts 50 134217727) rfl rfl rfl rfl (by kernel_rfl) (by (exact Rn.indexAddr i rfl rfl rfl hlt)) ?_
              refine WA.tpY (i := 27) (ls := bts 50 268435455) rfl rfl rfl rfl (by kernel_rfl) (by first | exact Rn.fieldAddr0 rfl | exact Rn.fieldAddr rfl) ?_
              refine WA.tpY (i := 28) (ls := bts 50 536870911) rfl rfl rfl rfl (by kernel_rfl) (by (apply Rn.load; (exact rfl); (exact (CellsAt.weak g1 (by simp)) 2 _ rfl))) ?_
              refine WA.tpY (i := 29) (ls := bts 50 1073741823) rfl rfl rfl rfl (by kernel_rfl) (Rn.move rfl) ?_
              refine WA.tpY (i := 30) (ls := bts 50 2147483647) rfl rfl rfl rfl (by kernel_rfl) (Rn.move rfl) ?_
              refine WA.tpY (i := 31) (ls := bts 50 4294967295) rfl rfl rfl rfl (by kernel_rfl) (by (exact Rn.indexAddr m rfl rfl rfl hltm)) ?_
              refine WA.tpY (i := 32) (ls := bts 50 8589934591) rfl rfl rfl rfl (by kernel_rfl) (by first | exact Rn.fieldAddr0 rfl | exact Rn.fieldAddr rfl) ?_
              refine WA.tpY (i := 33) (ls := bts 50 17179869183) rfl rfl rfl rfl (by kernel_rfl) (by (apply Rn.load; (exact rfl); (exact (CellsAt.weak g2 (by simp)) 2 _ rfl))) ?_
              refine WA.tpY (i := 34) (ls := bts 50 34359738367) rfl rfl rfl rfl (by kernel_rfl) (by (exact Rn.cmp (b := true) rfl rfl (congrArg some (beq_iff_eq.2 c3)))) ?_
              refine WA.tpY (i := 35) (ls := bts 50 68719476735) rfl rfl rfl rfl (by kernel_rfl) (Rn.move rfl) ?_
              refine WA.tpY (i := 36) (ls := bts 50 137438953471) rfl rfl rfl rfl (by kernel_rfl) (Rn.move rfl) ?_
              refine WA.tpY (i := 37) (ls := bts 50 274877906943) rfl rfl rfl rfl (by kernel_rfl) (Rn.move rfl) ?_
              refine WA.tpY (i := 38) (ls := bts 50 549755813887) rfl rfl rfl rfl (by kernel_rfl) (by (exact Rn.indexAddr i rfl rfl rfl hlt)) ?_
              refine WA.tpY (i := 39) (ls := bts 50 1099511627775) rfl rfl rfl rfl (by kernel_rfl) (by first | exact Rn.fieldAddr0 rfl | exact Rn.fieldAddr rfl) ?_
              refine WA.tpY (i := 40) (ls := bts 50 2199023255551) rfl rfl rfl rfl (by kernel_rfl) (by (apply Rn.load; (exact rfl); (exact (CellsAt.weak g1 (by simp)) 1 _ rfl))) ?_
              refine WA.tpY (i := 41) (ls := bts 50 4398046511103) rfl rfl rfl rfl (by kernel_rfl) (Rn.move rfl) ?_
              refine WA.tpY (i := 42) (ls := bts 50 8796093022207) rfl rfl rfl rfl (by kernel_rfl) (Rn.move rfl) ?_
              refine WA.tpY (i := 43) (ls := bts 50 17592186044415) rfl rfl rfl rfl (by kernel_rfl) (by (exact Rn.indexAddr m rfl rfl rfl hltm)) ?_
              refine WA.tpY (i := 44) (ls := bts 50 35184372088831) rfl rfl rfl rfl (by kernel_rfl) (by first | exact Rn.fieldAddr0 rfl | exact Rn.fieldAddr rfl) ?_
              refine WA.tpY (i := 45) (ls := bts 50 70368744177663) rfl rfl rfl rfl (by kernel_rfl) (by (apply Rn.load; (exact rfl); (exact (CellsAt.weak g2 (by simp)) 1 _ rfl))) ?_
              refine WA.tpY (i := 46) (ls := bts 50 140737488355327) rfl rfl rfl rfl (by kernel_rfl) (by (exact Rn.cmp (b := true) rfl rfl (congrArg some (decide_eq_true c4)))) ?_
              refine WA.tpY (i := 47) (ls := bts 50 281474976710655) rfl rfl rfl rfl (by kernel_rfl) (by first | exact Rn.pickT rfl rfl | exact Rn.pickF rfl rfl) ?_
              refine WA.tpY (i := 48) (ls := bts 50 562949953421311) rfl rfl rfl rfl (by kernel_rfl) (by first | exact Rn.pickT rfl rfl | exact Rn.pickF rfl rfl) ?_
              refine WA.tp (i := 49) (ls := bts 50 1125899906842623) rfl rfl (by kernel_rfl) (by first | exact Rn.pickT rfl rfl | exact Rn.pickF rfl rfl) ?_
              refine WA.done (by kernel_rfl) ?_
              ((refine Cont.nx (by assumption) _ _ ?_); (refine W.condT rfl ?_); (refine W.region ?_); (apply WL.rd; (exact rfl); exact Rn.move rfl); (apply WL.rd; (exact rfl); exact Rn.assign rfl); (refine WL.nil ?_); (refine Blk.nx (by assumption) _ _ ?_); (refine Cont.nx (by assumption) _ _ ?_); (refine W.region ?_); (apply WL.rd; (exact rfl); exact Rn.move rfl); (apply WL.rd; (exact rfl); exact Rn.add rfl rfl (by omega)); (apply WL.rd; (exact rfl); exact Rn.assign rfl); (refine WL.nil ?_))
              exact hL.nx ⟨i + 1, i⟩ _ _ ⟨by dsimp only; omega, BestT.turn hb txi c1 (by rw [ahead_iff]; exact .inr ⟨c3, c4⟩)⟩ (by dsimp only; omega) ⟨rfl, rfl, rfl, rfl, trivial⟩ (by (focus ((repeat (first | exact Keep.nil | (apply Keep.cons; (focus ((repeat (first | exact Take.here | apply Take.there)); done))))); done)))
            · skip
              ((refine W.skip ?_); (refine Cont.nx (by assumption) _ _ ?_); (refine W.seqK fun Q hQ => ?_); (refine W.blockK fun Q hQ => ?_); (refine W.seqK fun Q hQ => ?_))
              refine W.draw [] [] (by kernel_rfl) rfl (by kernel_rfl) (by (repeat (first | exact NP.body | refine Cont.np (by assumption) ?_ | refine Blk.np (by assumption) ?_ | refine Again.np (by assumption) ?_ | refine Scp.np (by assumption) ?_ | refine Met.np (by assumption) ?_))) (by (repeat (first | exact Pin.nil | (apply Pin.cons; (exact rfl); (focus ((repeat (first | exact Take.here | apply Take.there)); done)))))) ?_
              refine WA.tp (i := 0) (ls := bts 50 1) rfl rfl (by kernel_rfl) (Rn.move rfl) ?_
              refine WA.tp (i := 1) (ls := bts 50 3) rfl rfl (by kernel_rfl) (Rn.move rfl) ?_
              refine WA.tp (i := 2) (ls := bts 50 7) rfl rfl (by kernel_rfl) (by (exact Rn.indexAddr i rfl rfl rfl hlt)) ?_
              refine WA.tp (i := 3) (ls := bts 50 15) rfl rfl (by kernel_rfl) (by first | exact Rn.fieldAddr0 rfl | exact Rn.fieldAddr rfl) ?_
              refine WA.tp (i := 4) (ls := bts 50 31) rfl rfl (by kernel_rfl) (by (apply Rn.load; (exact rfl); (exact (CellsAt.weak g1 (by simp)) 2 _ rfl))) ?_
              refine WA.tp (i := 5) (ls := bts 50 63) rfl rfl (by kernel_rfl) (Rn.move rfl) ?_
              refine WA.tp (i := 6) (ls := bts 50 127) rfl rfl (by kernel_rfl) (by (exact Rn.cmp (b := true) rfl rfl (congrArg some (decide_eq_true c1)))) ?_
              refine WA.tp (i := 7) (ls := bts 50 255) rfl rfl (by kernel_rfl) (Rn.move rfl) ?_
              refine WA.tpY (i := 8) (ls := bts 50 511) rfl rfl rfl rfl (by kernel_rfl) (Rn.move rfl) ?_
              refine WA.tpY (i := 9) (ls := bts 50 1023) rfl rfl rfl rfl (by kernel_rfl) (by (exact Rn.cmp (b := false) rfl rfl (congrArg some (decide_eq_false (by omega))))) ?_
              refine WA.tpY (i := 10) (ls := bts 50 2047) rfl rfl rfl rfl (by kernel_rfl) (Rn.move rfl) ?_
              refine WA.tpY (i := 11) (ls := bts 50 4095) rfl rfl rfl rfl (by kernel_rfl) (Rn.move rfl) ?_
              refine WA.tpY (i := 12) (ls := bts 50 8191) rfl rfl rfl rfl (by kernel_rfl) (Rn.move rfl) ?_
              refine WA.tpY (i := 13) (ls := bts 50 16383) rfl rfl rfl rfl (by kernel_rfl) (by (exact Rn.indexAddr i rfl rfl rfl hlt)) ?_
              refine WA.tpY (i := 14) (ls := bts 50 32767) rfl rfl rfl rfl (by kernel_rfl) (by first | exact Rn.fieldAddr0 rfl | exact Rn.fieldAddr rfl) ?_
              refine WA.tpY (i := 15) (ls := bts 50 65535) rfl rfl rfl rfl (by kernel_rfl) (by (apply Rn.load; (exact rfl); (exact (CellsAt.weak g1 (by simp)) 2 _ rfl))) ?_
              refine WA.tpY (i := 16) (ls := bts 50 131071) rfl rfl rfl rfl (by kernel_rfl) (Rn.move rfl) ?_
              refine WA.tpY (i := 17) (ls := bts 50 262143) rfl rfl rfl rfl (by kernel_rfl) (Rn.move rfl) ?_
              refine WA.tpY (i := 18) (ls := bts 50 524287) rfl rfl rfl rfl (by kernel_rfl) (by (exact Rn.indexAddr m rfl rfl rfl hltm)) ?_
              refine WA.tpY (i := 19) (ls := bts 50 1048575) rfl rfl rfl rfl (by kernel_rfl) (by first | exact Rn.fieldAddr0 rfl | exact Rn.fieldAddr rfl) ?_
              refine WA.tpY (i := 20) (ls := bts 50 2097151) rfl rfl rfl rfl (by kernel_rfl) (by (apply Rn.load; (exact rfl); (exact (CellsAt.weak g2 (by simp)) 2 _ rfl))) ?_
              refine WA.tpY (i := 21) (ls := bts 50 4194303) rfl rfl rfl rfl (by kernel_rfl) (by (exact Rn.cmp (b := false) rfl rfl (congrArg some (decide_eq_false c2)))) ?_
              refine WA.tpY (i := 22) (ls := bts 50 8388607) rfl rfl rfl rfl (by kernel_rfl) (by first | exact Rn.pickT rfl rfl | exact Rn.pickF rfl rfl) ?_
              refine WA.tpY (i := 23) (ls := bts 50 16777215) rfl rfl rfl rfl (by kernel_rfl) (Rn.move rfl) ?_
              refine WA.tpY (i := 24) (ls := bts 50 33554431) rfl rfl rfl rfl (by kernel_rfl) (Rn.move rfl) ?_
              refine WA.tpY (i := 25) (ls := bts 50 67108863) rfl rfl rfl rfl (by kernel_rfl) (Rn.move rfl) ?_
              refine WA.tpY (i := 26) (ls := bts 50 134217727) rfl rfl rfl rfl (by kernel_rfl) (by (exact Rn.indexAddr i rfl rfl rfl hlt)) ?_
              refine WA.tpY (i := 27) (ls := bts 50 268435455) rfl rfl rfl rfl (by kernel_rfl) (by first | exact Rn.fieldAddr0 rfl | exact Rn.fieldAddr rfl) ?_
              refine WA.tpY (i := 28) (ls := bts 50 536870911) rfl rfl rfl rfl (by kernel_rfl) (by (apply Rn.load; (exact rfl); (exact (CellsAt.weak g1 (by simp)) 2 _ rfl))) ?_
              refine WA.tpY (i := 29) (ls := bts 50 1073741823) rfl rfl rfl rfl (by kernel_rfl) (Rn.move rfl) ?_
              refine WA.tpY (i := 30) (ls := bts 50 2147483647) rfl rfl rfl rfl (by kernel_rfl) (Rn.move rfl) ?_
              refine WA.tpY (i := 31) (ls := bts 50 4294967295) rfl rfl rfl rfl (by kernel_rfl) (by (exact Rn.indexAddr m rfl rfl rfl hltm)) ?_
              refine WA.tpY (i := 32) (ls := bts 50 8589934591) rfl rfl rfl rfl (by kernel_rfl) (by first | exact Rn.fieldAddr0 rfl | exact Rn.fieldAddr rfl) ?_
              refine WA.tpY (i := 33) (ls := bts 50 17179869183) rfl rfl rfl rfl (by kernel_rfl) (by (apply Rn.load; (exact rfl); (exact (CellsAt.weak g2 (by simp)) 2 _ rfl))) ?_
              refine WA.tpY (i := 34) (ls := bts 50 34359738367) rfl rfl rfl rfl (by kernel_rfl) (by (exact Rn.cmp (b := true) rfl rfl (congrArg some (beq_iff_eq.2 c3)))) ?_
              refine WA.tpY (i := 35) (ls := bts 50 68719476735) rfl rfl rfl rfl (by kernel_rfl) (Rn.move rfl) ?_
              refine WA.tpY (i := 36) (ls := bts 50 137438953471) rfl rfl rfl rfl (by kernel_rfl) (Rn.move rfl) ?_
              refine WA.tpY (i := 37) (ls := bts 50 274877906943) rfl rfl rfl rfl (by kernel_rfl) (Rn.move rfl) ?_
              refine WA.tpY (i := 38) (ls := bts 50 549755813887) rfl rfl rfl rfl (by kernel_rfl) (by (exact Rn.indexAddr i rfl rfl rfl hlt)) ?_
              refine WA.tpY (i := 39) (ls := bts 50 1099511627775) rfl rfl rfl rfl (by kernel_rfl) (by first | exact Rn.fieldAddr0 rfl | exact Rn.fieldAddr rfl) ?_
              refine WA.tpY (i := 40) (ls := bts 50 2199023255551) rfl rfl rfl rfl (by kernel_rfl) (by (apply Rn.load; (exact rfl); (exact (CellsAt.weak g1 (by simp)) 1 _ rfl))) ?_
              refine WA.tpY (i := 41) (ls := bts 50 4398046511103) rfl rfl rfl rfl (by kernel_rfl) (Rn.move rfl) ?_
              refine WA.tpY (i := 42) (ls := bts 50 8796093022207) rfl rfl rfl rfl (by kernel_rfl) (Rn.move rfl) ?_
              refine WA.tpY (i := 43) (ls := bts 50 17592186044415) rfl rfl rfl rfl (by kernel_rfl) (by (exact Rn.indexAddr m rfl rfl rfl hltm)) ?_
              refine WA.tpY (i := 44) (ls := bts 50 35184372088831) rfl rfl rfl rfl (by kernel_rfl) (by first | exact Rn.fieldAddr0 rfl | exact Rn.fieldAddr rfl) ?_
              refine WA.tpY (i := 45) (ls := bts 50 70368744177663) rfl rfl rfl rfl (by kernel_rfl) (by (apply Rn.load; (exact rfl); (exact (CellsAt.weak g2 (by simp)) 1 _ rfl))) ?_
              refine WA.tpY (i := 46) (ls := bts 50 140737488355327) rfl rfl rfl rfl (by kernel_rfl) (by (exact Rn.cmp (b := false) rfl rfl (congrArg some (decide_eq_false c4)))) ?_
              refine WA.tpY (i := 47) (ls := bts 50 281474976710655) rfl rfl rfl rfl (by kernel_rfl) (by first | exact Rn.pickT rfl rfl | exact Rn.pickF rfl rfl) ?_
              refine WA.tpY (i := 48) (ls := bts 50 562949953421311) rfl rfl rfl rfl (by kernel_rfl) (by first | exact Rn.pickT rfl rfl | exact Rn.pickF rfl rfl) ?_
              refine WA.tp (i := 49) (ls := bts 50 1125899906842623) rfl rfl (by kernel_rfl) (by first | exact Rn.pickT rfl rfl | exact Rn.pickF rfl rfl) ?_
              refine WA.done (by kernel_rfl) ?_
              ((refine Cont.nx (by assumption) _ _ ?_); (refine W.condF rfl ?_); (refine W.skip ?_); (refine Blk.nx (by assumption) _ _ ?_); (refine Cont.nx (by assumption) _ _ ?_); (refine W.region ?_); (apply WL.rd; (exact rfl); exact Rn.move rfl); (apply WL.rd; (exact rfl); exact Rn.add rfl rfl (by omega)); (apply WL.rd; (exact rfl); exact Rn.assign rfl); (refine WL.nil ?_))
              exact hL.nx ⟨i + 1, (m : Nat)⟩ _ _ ⟨by dsimp only; omega, BestT.keep hb hm tz hzn txi (by rw [ahead_false]; unfold toHT toT; dsimp only; omega)⟩ (by dsimp only; omega) ⟨rfl, rfl, rfl, rfl, trivial⟩ (by (focus ((repeat (first | exact Keep.nil | (apply Keep.cons; (focus ((repeat (first | exact Take.here | apply Take.there)); done))))); done)))
          · skip
            ((refine W.skip ?_); (refine Cont.nx (by assumption) _ _ ?_); (refine W.seqK fun Q hQ => ?_); (refine W.blockK fun Q hQ => ?_); (refine W.seqK fun Q hQ => ?_))
            refine W.draw [] [] (by kernel_rfl) rfl (by kernel_rfl) (by (repeat (first | exact NP.body | refine Cont.np (by assumption) ?_ | refine Blk.np (by assumption) ?_ | refine Again.np (by assumption) ?_ | refine Scp.np (by assumption) ?_ | refine Met.np (by assumption) ?_))) (by (repeat (first | exact Pin.nil | (apply Pin.cons; (exact rfl); (focus ((repeat (first | exact Take.here | apply Take.there)); done)))))) ?_
            refine WA.tp (i := 0) (ls := bts 50 1) rfl rfl (by kernel_rfl) (Rn.move rfl) ?_
            refine WA.tp (i := 1) (ls := bts 50 3) rfl rfl (by kernel_rfl) (Rn.move rfl) ?_
            refine WA.tp (i := 2) (ls := bts 50 7) rfl rfl (by kernel_rfl) (by (exact Rn.indexAddr i rfl rfl rfl hlt)) ?_
            refine WA.tp (i := 3) (ls := bts 50 15) rfl rfl (by kernel_rfl) (by first | exact Rn.fieldAddr0 rfl | exact Rn.fieldAddr rfl) ?_
            refine WA.tp (i := 4) (ls := bts 50 31) rfl rfl (by kernel_rfl) (by (apply Rn.load; (exact rfl); (exact (CellsAt.weak g1 (by simp)) 2 _ rfl))) ?_
            refine WA.tp (i := 5) (ls := bts 50 63) rfl rfl (by kernel_rfl) (Rn.move rfl) ?_
            refine WA.tp (i := 6) (ls := bts 50 127) rfl rfl (by kernel_rfl) (by (exact Rn.cmp (b := true) rfl rfl (congrArg some (decide_eq_true c1)))) ?_
            refine WA.tp (i := 7) (ls := bts 50 255) rfl rfl (by kernel_rfl) (Rn.move rfl) ?_
            refine WA.tpY (i := 8) (ls := bts 50 511) rfl rfl rfl rfl (by kernel_rfl) (Rn.move rfl) ?_
            refine WA.tpY (i := 9) (ls := bts 50 1023) rfl rfl rfl rfl (by kernel_rfl) (by (exact Rn.cmp (b := false) rfl rfl (congrArg some (decide_eq_false (by omega))))) ?_
            refine WA.tpY (i := 10) (ls := bts 50 2047) rfl rfl rfl rfl (by kernel_rfl) (Rn.move rfl) ?_
            refine WA.tpY (i := 11) (ls := bts 50 4095) rfl rfl rfl rfl (by kernel_rfl) (Rn.move rfl) ?_
            refine WA.tpY (i := 12) (ls := bts 50 8191) rfl rfl rfl rfl (by kernel_rfl) (Rn.move rfl) ?_
            refine WA.tpY (i := 13) (ls := bts 50 16383) rfl rfl rfl rfl (by kernel_rfl) (by (exact Rn.indexAddr i rfl rfl rfl hlt)) ?_
            refine WA.tpY (i := 14) (ls := bts 50 32767) rfl rfl rfl rfl (by kernel_rfl) (by first | exact Rn.fieldAddr0 rfl | exact Rn.fieldAddr rfl) ?_
            refine WA.tpY (i := 15) (ls := bts 50 65535) rfl rfl rfl rfl (by kernel_rfl) (by (apply Rn.load; (exact rfl); (exact (CellsAt.weak g1 (by simp)) 2 _ rfl))) ?_
            refine WA.tpY (i := 16) (ls := bts 50 131071) rfl rfl rfl rfl (by kernel_rfl) (Rn.move rfl) ?_
            refine WA.tpY (i := 17) (ls := bts 50 262143) rfl rfl rfl rfl (by kernel_rfl) (Rn.move rfl) ?_
            refine WA.tpY (i := 18) (ls := bts 50 524287) rfl rfl rfl rfl (by kernel_rfl) (by (exact Rn.indexAddr m rfl rfl rfl hltm)) ?_
            refine WA.tpY (i := 19) (ls := bts 50 1048575) rfl rfl rfl rfl (by kernel_rfl) (by first | exact Rn.fieldAddr0 rfl | exact Rn.fieldAddr rfl) ?_
            refine WA.tpY (i := 20) (ls := bts 50 2097151) rfl rfl rfl rfl (by kernel_rfl) (by (apply Rn.load; (exact rfl); (exact (CellsAt.weak g2 (by simp)) 2 _ rfl))) ?_
            refine WA.tpY (i := 21) (ls := bts 50 4194303) rfl rfl rfl rfl (by kernel_rfl) (by (exact Rn.cmp (b := false) rfl rfl (congrArg some (decide_eq_false c2)))) ?_
            refine WA.tpY (i := 22) (ls := bts 50 8388607) rfl rfl rfl rfl (by kernel_rfl) (by first | exact Rn.pickT rfl rfl | exact Rn.pickF rfl rfl) ?_
            refine WA.tpY (i := 23) (ls := bts 50 16777215) rfl rfl rfl rfl (by kernel_rfl) (Rn.move rfl) ?_
            refine WA.tpY (i := 24) (ls := bts 50 33554431) rfl rfl rfl rfl (by kernel_rfl) (Rn.move rfl) ?_
            refine WA.tpY (i := 25) (ls := bts 50 67108863) rfl rfl rfl rfl (by kernel_rfl) (Rn.move rfl) ?_
            refine WA.tpY (i := 26) (ls := bts 50 134217727) rfl rfl rfl rfl (by kernel_rfl) (by (exact Rn.indexAddr i rfl rfl rfl hlt)) ?_
            refine WA.tpY (i := 27) (ls := bts 50 268435455) rfl rfl rfl rfl (by kernel_rfl) (by first | exact Rn.fieldAddr0 rfl | exact Rn.fieldAddr rfl) ?_
            refine WA.tpY (i := 28) (ls := bts 50 536870911) rfl rfl rfl rfl (by kernel_rfl) (by (apply Rn.load; (exact rfl); (exact (CellsAt.weak g1 (by simp)) 2 _ rfl))) ?_
            refine WA.tpY (i := 29) (ls := bts 50 1073741823) rfl rfl rfl rfl (by kernel_rfl) (Rn.move rfl) ?_
            refine WA.tpY (i := 30) (ls := bts 50 2147483647) rfl rfl rfl rfl (by kernel_rfl) (Rn.move rfl) ?_
            refine WA.tpY (i := 31) (ls := bts 50 4294967295) rfl rfl rfl rfl (by kernel_rfl) (by (exact Rn.indexAddr m rfl rfl rfl hltm)) ?_
            refine WA.tpY (i := 32) (ls := bts 50 8589934591) rfl rfl rfl rfl (by kernel_rfl) (by first | exact Rn.fieldAddr0 rfl | exact Rn.fieldAddr rfl) ?_
            refine WA.tpY (i := 33) (ls := bts 50 17179869183) rfl rfl rfl rfl (by kernel_rfl) (by (apply Rn.load; (exact rfl); (exact (CellsAt.weak g2 (by simp)) 2 _ rfl))) ?_
            refine WA.tpY (i := 34) (ls := bts 50 34359738367) rfl rfl rfl rfl (by kernel_rfl) (by (exact Rn.cmp (b := false) rfl rfl (congrArg some (beq_eq_false_iff_ne.2 c3)))) ?_
            refine WA.tpY (i := 35) (ls := bts 50 68719476735) rfl rfl rfl rfl (by kernel_rfl) (Rn.move rfl) ?_
            first | refine WA.tn (i := 36) (ls := bts 50 137438953471) rfl rfl rfl rfl rfl (by kernel_rfl) ?_ | refine WA.tnU (i := 36) (ls := bts 50 137438953471) rfl rfl rfl rfl (by kernel_rfl) ?_
            first | refine WA.tn (i := 37) (ls := bts 50 274877906943) rfl rfl rfl rfl rfl (by kernel_rfl) ?_ | refine WA.tnU (i := 37) (ls := bts 50 274877906943) rfl rfl rfl rfl (by kernel_rfl) ?_
            first | refine WA.tn (i := 38) (ls := bts 50 549755813887) rfl rfl rfl rfl rfl (by kernel_rfl) ?_ | refine WA.tnU (i := 38) (ls := bts 50 549755813887) rfl rfl rfl rfl (by kernel_rfl) ?_
            first | refine WA.tn (i := 39) (ls := bts 50 1099511627775) rfl rfl rfl rfl rfl (by kernel_rfl) ?_ | refine WA.tnU (i := 39) (ls := bts 50 1099511627775) rfl rfl rfl rfl (by kernel_rfl) ?_
            first | refine WA.tn (i := 40) (ls := bts 50 2199023255551) rfl rfl rfl rfl rfl (by kernel_rfl) ?_ | refine WA.tnU (i := 40) (ls := bts 50 2199023255551) rfl rfl rfl rfl (by kernel_rfl) ?_
            first | refine WA.tn (i := 41) (ls := bts 50 4398046511103) rfl rfl rfl rfl rfl (by kernel_rfl) ?_ | refine WA.tnU (i := 41) (ls := bts 50 4398046511103) rfl rfl rfl rfl (by kernel_rfl) ?_
            first | refine WA.tn (i := 42) (ls := bts 50 8796093022207) rfl rfl rfl rfl rfl (by kernel_rfl) ?_ | refine WA.tnU (i := 42) (ls := bts 50 8796093022207) rfl rfl rfl rfl (by kernel_rfl) ?_
            first | refine WA.tn (i := 43) (ls := bts 50 17592186044415) rfl rfl rfl rfl rfl (by kernel_rfl) ?_ | refine WA.tnU (i := 43) (ls := bts 50 17592186044415) rfl rfl rfl rfl (by kernel_rfl) ?_
            first | refine WA.tn (i := 44) (ls := bts 50 35184372088831) rfl rfl rfl rfl rfl (by kernel_rfl) ?_ | refine WA.tnU (i := 44) (ls := bts 50 35184372088831) rfl rfl rfl rfl (by kernel_rfl) ?_
            first | refine WA.tn (i := 45) (ls := bts 50 70368744177663) rfl rfl rfl rfl rfl (by kernel_rfl) ?_ | refine WA.tnU (i := 45) (ls := bts 50 70368744177663) rfl rfl rfl rfl (by kernel_rfl) ?_
            first | refine WA.tn (i := 46) (ls := bts 50 140737488355327) rfl rfl rfl rfl rfl (by kernel_rfl) ?_ | refine WA.tnU (i := 46) (ls := bts 50 140737488355327) rfl rfl rfl rfl (by kernel_rfl) ?_
            refine WA.tpY (i := 47) (ls := bts 50 281474976710655) rfl rfl rfl rfl (by kernel_rfl) (by first | exact Rn.pickT rfl rfl | exact Rn.pickF rfl rfl) ?_
            refine WA.tpY (i := 48) (ls := bts 50 562949953421311) rfl rfl rfl rfl (by kernel_rfl) (by first | exact Rn.pickT rfl rfl | exact Rn.pickF rfl rfl) ?_
            refine WA.tp (i := 49) (ls := bts 50 1125899906842623) rfl rfl (by kernel_rfl) (by first | exact Rn.pickT rfl rfl | exact Rn.pickF rfl rfl) ?_
            refine WA.done (by kernel_rfl) ?_
            ((refine Cont.nx (by assumption) _ _ ?_); (refine W.condF rfl ?_); (refine W.skip ?_); (refine Blk.nx (by assumption) _ _ ?_); (refine Cont.nx (by assumption) _ _ ?_); (refine W.region ?_); (apply WL.rd; (exact rfl); exact Rn.move rfl); (apply WL.rd; (exact rfl); exact Rn.add rfl rfl (by omega)); (apply WL.rd; (exact rfl); exact Rn.assign rfl); (refine WL.nil ?_))
            exact hL.nx ⟨i + 1, (m : Nat)⟩ _ _ ⟨by dsimp only; omega, BestT.keep hb hm tz hzn txi (by rw [ahead_false]; unfold toHT toT; dsimp only; omega)⟩ (by dsimp only; omega) ⟨rfl, rfl, rfl, rfl, trivial⟩ (by (focus ((repeat (first | exact Keep.nil | (apply Keep.cons; (focus ((repeat (first | exact Take.here | apply Take.there)); done))))); done)))
    · skip
      ((refine W.skip ?_); (refine Cont.nx (by assumption) _ _ ?_); (refine W.seqK fun Q hQ => ?_); (refine W.blockK fun Q hQ => ?_); (refine W.seqK fun Q hQ => ?_))
      refine W.draw [] [] (by kernel_rfl) rfl (by kernel_rfl) (by (repeat (first | exact NP.body | refine Cont.np (by assumption) ?_ | refine Blk.np (by assumption) ?_ | refine Again.np (by assumption) ?_ | refine Scp.np (by assumption) ?_ | refine Met.np (by assumption) ?_))) (by (repeat (first | exact Pin.nil | (apply Pin.cons; (exact rfl); (focus ((repeat (first | exact Take.here | apply Take.there)); done)))))) ?_
      refine WA.tp (i := 0) (ls := bts 50 1) rfl rfl (by kernel_rfl) (Rn.move rfl) ?_
      refine WA.tp (i := 1) (ls := bts 50 3) rfl rfl (by kernel_rfl) (Rn.move rfl) ?_
      refine WA.tp (i := 2) (ls := bts 50 7) rfl rfl (by kernel_rfl) (by (exact Rn.indexAddr i rfl rfl rfl hlt)) ?_
      refine WA.tp (i := 3) (ls := bts 50 15) rfl rfl (by kernel_rfl) (by first | exact Rn.fieldAddr0 rfl | exact Rn.fieldAddr rfl) ?_
      refine WA.tp (i := 4) (ls := bts 50 31) rfl rfl (by kernel_rfl) (by (apply Rn.load; (exact rfl); (exact (CellsAt.weak g1 (by simp)) 2 _ rfl))) ?_
      refine WA.tp (i := 5) (ls := bts 50 63) rfl rfl (by kernel_rfl) (Rn.move rfl) ?_
      refine WA.tp (i := 6) (ls := bts 50 127) rfl rfl (by kernel_rfl) (by (exact Rn.cmp (b := false) rfl rfl (congrArg some (decide_eq_false c1)))) ?_
      refine WA.tp (i := 7) (ls := bts 50 255) rfl rfl (by kernel_rfl) (Rn.move rfl) ?_
      first | refine WA.tn (i := 8) (ls := bts 50 511) rfl rfl rfl rfl rfl (by kernel_rfl) ?_ | refine WA.tnU (i := 8) (ls := bts 50 511) rfl rfl rfl rfl (by kernel_rfl) ?_
      first | refine WA.tn (i := 9) (ls := bts 50 1023) rfl rfl rfl rfl rfl (by kernel_rfl) ?_ | refine WA.tnU (i := 9) (ls := bts 50 1023) rfl rfl rfl rfl (by kernel_rfl) ?_
      first | refine WA.tn (i := 10) (ls := bts 50 2047) rfl rfl rfl rfl rfl (by kernel_rfl) ?_ | refine WA.tnU (i := 10) (ls := bts 50 2047) rfl rfl rfl rfl (by kernel_rfl) ?_
      first | refine WA.tn (i := 11) (ls := bts 50 4095) rfl rfl rfl rfl rfl (by kernel_rfl) ?_ | refine WA.tnU (i := 11) (ls := bts 50 4095) rfl rfl rfl rfl (by kernel_rfl) ?_
      first | refine WA.tn (i := 12) (ls := bts 50 8191) rfl rfl rfl rfl rfl (by kernel_rfl) ?_ | refine WA.tnU (i := 12) (ls := bts 50 8191) rfl rfl rfl rfl (by kernel_rfl) ?_
      first | refine WA.tn (i := 13) (ls := bts 50 16383) rfl rfl rfl rfl rfl (by kernel_rfl) ?_ | refine WA.tnU (i := 13) (ls := bts 50 16383) rfl rfl rfl rfl (by kernel_rfl) ?_
      first | refine WA.tn (i := 14) (ls := bts 50 32767) rfl rfl rfl rfl rfl (by kernel_rfl) ?_ | refine WA.tnU (i := 14) (ls := bts 50 32767) rfl rfl rfl rfl (by kernel_rfl) ?_
      first | refine WA.tn (i := 15) (ls := bts 50 65535) rfl rfl rfl rfl rfl (by kernel_rfl) ?_ | refine WA.tnU (i := 15) (ls := bts 50 65535) rfl rfl rfl rfl (by kernel_rfl) ?_
      first | refine WA.tn (i := 16) (ls := bts 50 131071) rfl rfl rfl rfl rfl (by kernel_rfl) ?_ | refine WA.tnU (i := 16) (ls := bts 50 131071) rfl rfl rfl rfl (by kernel_rfl) ?_
      first | refine WA.tn (i := 17) (ls := bts 50 262143) rfl rfl rfl rfl rfl (by kernel_rfl) ?_ | refine WA.tnU (i := 17) (ls := bts 50 262143) rfl rfl rfl rfl (by kernel_rfl) ?_
      first | refine WA.tn (i := 18) (ls := bts 50 524287) rfl rfl rfl rfl rfl (by kernel_rfl) ?_ | refine WA.tnU (i := 18) (ls := bts 50 524287) rfl rfl rfl rfl (by kernel_rfl) ?_
      first | refine WA.tn (i := 19) (ls := bts 50 1048575) rfl rfl rfl rfl rfl (by kernel_rfl) ?_ | refine WA.tnU (i := 19) (ls := bts 50 1048575) rfl rfl rfl rfl (by kernel_rfl) ?_
      first | refine WA.tn (i := 20) (ls := bts 50 2097151) rfl rfl rfl rfl rfl (by kernel_rfl) ?_ | refine WA.tnU (i := 20) (ls := bts 50 2097151) rfl rfl rfl rfl (by kernel_rfl) ?_
      first | refine WA.tn (i := 21) (ls := bts 50 4194303) rfl rfl rfl rfl rfl (by kernel_rfl) ?_ | refine WA.tnU (i := 21) (ls := bts 50 4194303) rfl rfl rfl rfl (by kernel_rfl) ?_
      first | refine WA.tn (i := 22) (ls := bts 50 8388607) rfl rfl rfl rfl rfl (by kernel_rfl) ?_ | refine WA.tnU (i := 22) (ls := bts 50 8388607) rfl rfl rfl rfl (by kernel_rfl) ?_
      first | refine WA.tn (i := 23) (ls := bts 50 16777215) rfl rfl rfl rfl rfl (by kernel_rfl) ?_ | refine WA.tnU (i := 23) (ls := bts 50 16777215) rfl rfl rfl rfl (by kernel_rfl) ?_
      first | refine WA.tn (i := 24) (ls := bts 50 33554431) rfl rfl rfl rfl rfl (by kernel_rfl) ?_ | refine WA.tnU (i := 24) (ls := bts 50 33554431) rfl rfl rfl rfl (by kernel_rfl) ?_
      first | refine WA.tn (i := 25) (ls := bts 50 67108863) rfl rfl rfl rfl rfl (by kernel_rfl) ?_ | refine WA.tnU (i := 25) (ls := bts 50 67108863) rfl rfl rfl rfl (by kernel_rfl) ?_
      first | refine WA.tn (i := 26) (ls := bts 50 134217727) rfl rfl rfl rfl rfl (by kernel_rfl) ?_ | refine WA.tnU (i := 26) (ls := bts 50 134217727) rfl rfl rfl rfl (by kernel_rfl) ?_
      first | refine WA.tn (i := 27) (ls := bts 50 268435455) rfl rfl rfl rfl rfl (by kernel_rfl) ?_ | refine WA.tnU (i := 27) (ls := bts 50 268435455) rfl rfl rfl rfl (by kernel_rfl) ?_
      first | refine WA.tn (i := 28) (ls := bts 50 536870911) rfl rfl rfl rfl rfl (by kernel_rfl) ?_ | refine WA.tnU (i := 28) (ls := bts 50 536870911) rfl rfl rfl rfl (by kernel_rfl) ?_
      first | refine WA.tn (i := 29) (ls := bts 50 1073741823) rfl rfl rfl rfl rfl (by kernel_rfl) ?_ | refine WA.tnU (i := 29) (ls := bts 50 1073741823) rfl rfl rfl rfl (by kernel_rfl) ?_
      first | refine WA.tn (i := 30) (ls := bts 50 2147483647) rfl rfl rfl rfl rfl (by kernel_rfl) ?_ | refine WA.tnU (i := 30) (ls := bts 50 2147483647) rfl rfl rfl rfl (by kernel_rfl) ?_
      first | refine WA.tn (i := 31) (ls := bts 50 4294967295) rfl rfl rfl rfl rfl (by kernel_rfl) ?_ | refine WA.tnU (i := 31) (ls := bts 50 4294967295) rfl rfl rfl rfl (by kernel_rfl) ?_
      first | refine WA.tn (i := 32) (ls := bts 50 8589934591) rfl rfl rfl rfl rfl (by kernel_rfl) ?_ | refine WA.tnU (i := 32) (ls := bts 50 8589934591) rfl rfl rfl rfl (by kernel_rfl) ?_
      first | refine WA.tn (i := 33) (ls := bts 50 17179869183) rfl rfl rfl rfl rfl (by kernel_rfl) ?_ | refine WA.tnU (i := 33) (ls := bts 50 17179869183) rfl rfl rfl rfl (by kernel_rfl) ?_
      first | refine WA.tn (i := 34) (ls := bts 50 34359738367) rfl rfl rfl rfl rfl (by kernel_rfl) ?_ | refine WA.tnU (i := 34) (ls := bts 50 34359738367) rfl rfl rfl rfl (by kernel_rfl) ?_
      first | refine WA.tn (i := 35) (ls := bts 50 68719476735) rfl rfl rfl rfl rfl (by kernel_rfl) ?_ | refine WA.tnU (i := 35) (ls := bts 50 68719476735) rfl rfl rfl rfl (by kernel_rfl) ?_
      first | refine WA.tn (i := 36) (ls := bts 50 137438953471) rfl rfl rfl rfl rfl (by kernel_rfl) ?_ | refine WA.tnU (i := 36) (ls := bts 50 137438953471) rfl rfl rfl rfl (by kernel_rfl) ?_
      first | refine WA.tn (i := 37) (ls := bts 50 274877906943) rfl rfl rfl rfl rfl (by kernel_rfl) ?_ | refine WA.tnU (i := 37) (ls := bts 50 274877906943) rfl rfl rfl rfl (by kernel_rfl) ?_
      first | refine WA.tn (i := 38) (ls := bts 50 549755813887) rfl rfl rfl rfl rfl (by kernel_rfl) ?_ | refine WA.tnU (i := 38) (ls := bts 50 549755813887) rfl rfl rfl rfl (by kernel_rfl) ?_
      first | refine WA.tn (i := 39) (ls := bts 50 1099511627775) rfl rfl rfl rfl rfl (by kernel_rfl) ?_ | refine WA.tnU (i := 39) (ls := bts 50 1099511627775) rfl rfl rfl rfl (by kernel_rfl) ?_
      first | refine WA.tn (i := 40) (ls := bts 50 2199023255551) rfl rfl rfl rfl rfl (by kernel_rfl) ?_ | refine WA.tnU (i := 40) (ls := bts 50 2199023255551) rfl rfl rfl rfl (by kernel_rfl) ?_
      first | refine WA.tn (i := 41) (ls := bts 50 4398046511103) rfl rfl rfl rfl rfl (by kernel_rfl) ?_ | refine WA.tnU (i := 41) (ls := bts 50 4398046511103) rfl rfl rfl rfl (by kernel_rfl) ?_
      first | refine WA.tn (i := 42) (ls := bts 50 8796093022207) rfl rfl rfl rfl rfl (by kernel_rfl) ?_ | refine WA.tnU (i := 42) (ls := bts 50 8796093022207) rfl rfl rfl rfl (by kernel_rfl) ?_
      first | refine WA.tn (i := 43) (ls := bts 50 17592186044415) rfl rfl rfl rfl rfl (by kernel_rfl) ?_ | refine WA.tnU (i := 43) (ls := bts 50 17592186044415) rfl rfl rfl rfl (by kernel_rfl) ?_
      first | refine WA.tn (i := 44) (ls := bts 50 35184372088831) rfl rfl rfl rfl rfl (by kernel_rfl) ?_ | refine WA.tnU (i := 44) (ls := bts 50 35184372088831) rfl rfl rfl rfl (by kernel_rfl) ?_
      first | refine WA.tn (i := 45) (ls := bts 50 70368744177663) rfl rfl rfl rfl rfl (by kernel_rfl) ?_ | refine WA.tnU (i := 45) (ls := bts 50 70368744177663) rfl rfl rfl rfl (by kernel_rfl) ?_
      first | refine WA.tn (i := 46) (ls := bts 50 140737488355327) rfl rfl rfl rfl rfl (by kernel_rfl) ?_ | refine WA.tnU (i := 46) (ls := bts 50 140737488355327) rfl rfl rfl rfl (by kernel_rfl) ?_
      first | refine WA.tn (i := 47) (ls := bts 50 281474976710655) rfl rfl rfl rfl rfl (by kernel_rfl) ?_ | refine WA.tnU (i := 47) (ls := bts 50 281474976710655) rfl rfl rfl rfl (by kernel_rfl) ?_
      first | refine WA.tn (i := 48) (ls := bts 50 562949953421311) rfl rfl rfl rfl rfl (by kernel_rfl) ?_ | refine WA.tnU (i := 48) (ls := bts 50 562949953421311) rfl rfl rfl rfl (by kernel_rfl) ?_
      refine WA.tp (i := 49) (ls := bts 50 1125899906842623) rfl rfl (by kernel_rfl) (by first | exact Rn.pickT rfl rfl | exact Rn.pickF rfl rfl) ?_
      refine WA.done (by kernel_rfl) ?_
      ((refine Cont.nx (by assumption) _ _ ?_); (refine W.condF rfl ?_); (refine W.skip ?_); (refine Blk.nx (by assumption) _ _ ?_); (refine Cont.nx (by assumption) _ _ ?_); (refine W.region ?_); (apply WL.rd; (exact rfl); exact Rn.move rfl); (apply WL.rd; (exact rfl); exact Rn.add rfl rfl (by omega)); (apply WL.rd; (exact rfl); exact Rn.assign rfl); (refine WL.nil ?_))
      exact hL.nx ⟨i + 1, bv⟩ _ _ ⟨by dsimp only; omega, hb.later txi (show now < x.mom by omega)⟩ (by dsimp only; omega) ⟨rfl, rfl, rfl, rfl, trivial⟩ (by (focus ((repeat (first | exact Keep.nil | (apply Keep.cons; (focus ((repeat (first | exact Take.here | apply Take.there)); done))))); done)))
  · have hii : i = xs.length := by omega
    subst hii
    have hlm : (xs.map toT).length = xs.length := List.length_map _
    ((refine W.exit ?_); (refine Cont.ex (by assumption) _ _ _ ?_); (refine Again.ex (by assumption) _ _ _ ?_); (refine Blk.ot (by assumption) _ _ ?_); (refine Cont.nx (by assumption) _ _ ?_); (refine W.seqK fun Q hQ => ?_); (refine W.region ?_); (apply WL.rd; (exact rfl); exact Rn.move rfl); (apply WL.rd; (exact rfl); exact Rn.assign rfl); (refine WL.nil ?_); (refine Cont.nx (by assumption) _ _ ?_); (refine W.ret ?_))
    ((first | (apply X.ret1; (exact rfl); (exact rfl)) | (apply X.ret2; (exact rfl); (exact rfl); (exact rfl)) | (apply X.retSt; (exact rfl); infer_instance; infer_instance; (exact rfl); (exact rfl); (focus ((repeat (first | exact At.one | exact At.here (by assumption) | exact At.ro (by assumption) | apply At.there)); done)); (exact rfl)) | (apply X.retS; (exact rfl); infer_instance; infer_instance; (exact rfl); (focus ((repeat (first | exact At.one | exact At.here (by assumption) | exact At.ro (by assumption) | apply At.there)); done)); (exact rfl)) | (apply X.ret3; (exact rfl); (exact rfl); (exact rfl); (exact rfl)) | (apply X.ret4; (exact rfl); (exact rfl); (exact rfl); (exact rfl); (exact rfl)) | (apply X.ret0; (exact rfl)) | (apply X.end0; (exact rfl))); refine ⟨[], Keep.nil, ?_⟩)
    refine ⟨_, ?_, rfl, rfl⟩
    rcases hb with ⟨rfl, hb⟩ | ⟨m, z', rfl, hm, tz, hzn, hb⟩
    · exact .inl ⟨rfl, BestT.none_due (by rw [hlm]; exact hb)⟩
    · have hz : xs[m]? = some xs[m] := List.getElem?_eq_getElem hm
      generalize xs[m] = z at hz
      have ez : z' = toT z := by rw [toT_get hz] at tz; exact (Option.some.inj tz).symm
      subst ez
      exact .inr ⟨m, z, rfl, hz, hzn, BestT.isFirst (by rw [hlm]; exact hb) tz hzn⟩
end Go.Proofs.Ytkgepjfofhjokaa
