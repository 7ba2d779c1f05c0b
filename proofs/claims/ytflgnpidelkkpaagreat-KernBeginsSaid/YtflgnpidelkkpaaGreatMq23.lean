/- part 23 of the proof: contracts of the functions that the law reaches, and plain laws. -/
import Derived.Test.YtflgnpidelkkpaaGreatMq7
import Derived.Test.YtflgnpidelkkpaaGreatMq22
import Derived.Test.YtflgnpidelkkpaaGreatMq8
import Derived.Test.YtflgnpidelkkpaaGreatMq1
namespace Go.Proofs.YtflgnpidelkkpaaGreat
set_option maxRecDepth 8000
set_option maxHeartbeats 1000000
set_option linter.unusedVariables false
set_option linter.unusedSimpArgs false
def LatC (b : Nat) (l : List TimerV) (hs : List Hp) : Prop := ∃ hb m hm p q r, hs = [one b (cells [.pointer (some ⟨hb, 0, none⟩), .map (some m)] 179), hm, p, q, r] ∧ HeapC hb (l.map toHT) [p, q, r] ∧ MapI (evD l) m hm
theorem LatC.nd {b : Nat} {l : List TimerV} {hs : List Hp} (h : LatC b l hs) : (l.map (·.id)).Nodup := by
  obtain ⟨hb, m, hm, p, q, r, _, h, _⟩ := h
  have := h.nd
  unfold Nd at this
  rw [List.map_map] at this
  exact this
theorem offT_any {l : List TimerV} {id : Int} (h : (l.any fun x => x.id == id) = false) : offT id l = l := by
  unfold offT
  rw [List.filter_eq_self]
  intro x hx
  have := List.any_eq_false.1 h x hx
  simpa using this
theorem mapT_any (l : List TimerV) (id : Int) : ((l.map toHT).any fun x => x.id == id) = l.any fun x => x.id == id := by rw [List.any_map]; rfl
attribute [local irreducible] W X WL WA WB WG WO Rn Own one splice Arr Spec WQ WH Qn
theorem lnew_any (F : Hp) : Spec Tryz.prog 75 [] F [] fun v hs => ∃ b, v = .pointer (some ⟨b, 0, none⟩) ∧ LatC b [] hs := by
  refine Spec.enter Tryz.func75 rfl Tryz.ntmps75 rfl fun B => ?_
  repeat' (first | ((refine WL.ex rfl (WO.callA Tryz.func123 rfl (by kernel_rfl) rfl (fun G hG => new_any G) ?_); rintro v own' ⟨b, rfl, h1⟩)) | ((refine WL.ex rfl (WO.makeMap ?_); intro m hm hmi)) | (first | refine soA ?_ | refine sgA ?_ | refine sxA ?_ | refine sbA ?_ | refine fun (Q : Post) hQ => ?_ | refine fun (nb : Nat) => (?_ : WL _ _ _ _ _ _ _ _ _) | (refine WL.guard rfl rfl rfl (fun h => ?_) (fun h => ?_) <;> (try dsimp only at h))))
  obtain ⟨p, q, r, rfl⟩ := h1.three
  (refine seE ?_)
  exact ⟨[one nb (cells [.pointer (some ⟨b, 0, none⟩), .map (some m)] 179), hm, p, q, r], (by (exact keA)), nb, rfl, b, m, hm, p, q, r, rfl, h1, hmi⟩
theorem lwaits_any (b : Nat) (l : List TimerV) (id : Int) (F : Hp) (hs : List Hp) (ho : LatC b l hs) : Spec Tryz.prog 151 [.pointer (some ⟨b, 0, none⟩), .int .i64 id] F hs fun v hs' => v = .bool (l.any fun x => x.id == id) ∧ hs' = hs := by
  obtain ⟨hb, m, hm, p, q, r, rfl, hc, hmi⟩ := ho
  refine Spec.enter Tryz.func151 rfl Tryz.ntmps151 rfl fun B => ?_
  repeat' (first | refine soA ?_ | refine sgA ?_ | refine sxA ?_ | refine sbA ?_ | refine fun (Q : Post) hQ => ?_ | refine fun (nb : Nat) => (?_ : WL _ _ _ _ _ _ _ _ _) | (refine WL.guard rfl rfl rfl (fun h => ?_) (fun h => ?_) <;> (try dsimp only at h)))
  apply WL.ex
  · exact rfl
  refine WO.callN Tryz.func205 rfl (by kernel_rfl) rfl (own := [p, q, r]) (by (exact tsA)) (fun G hG hh => key_any hb _ id G _ hc) ?_
  rintro v own' ⟨hk, rfl⟩
  rcases hk with ⟨x, hx, hi, rfl⟩ | ⟨hn, rfl⟩
  · have e : (l.any fun x => x.id == id) = true := by rw [← mapT_any]; exact List.any_eq_true.2 ⟨x, hx, by simp [hi]⟩
    repeat' (first | refine soA ?_ | refine sgA ?_ | refine sxA ?_ | refine sbA ?_ | refine fun (Q : Post) hQ => ?_ | refine fun (nb : Nat) => (?_ : WL _ _ _ _ _ _ _ _ _) | (refine WL.guard rfl rfl rfl (fun h => ?_) (fun h => ?_) <;> (try dsimp only at h)))
    (refine seE ?_)
    exact ⟨[one b (cells [.pointer (some ⟨hb, 0, none⟩), .map (some m)] 179), hm, p, q, r], (by (exact keA)), by rw [e]; rfl, rfl⟩
  · have e : (l.any fun x => x.id == id) = false := by rw [← mapT_any]; exact List.any_eq_false.2 fun x hx => by simpa using hn x hx
    repeat' (first | refine soA ?_ | refine sgA ?_ | refine sxA ?_ | refine sbA ?_ | refine fun (Q : Post) hQ => ?_ | refine fun (nb : Nat) => (?_ : WL _ _ _ _ _ _ _ _ _) | (refine WL.guard rfl rfl rfl (fun h => ?_) (fun h => ?_) <;> (try dsimp only at h)))
    (refine seE ?_)
    exact ⟨[one b (cells [.pointer (some ⟨hb, 0, none⟩), .map (some m)] 179), hm, p, q, r], (by (exact keA)), by rw [e]; rfl, rfl⟩
theorem lput_new (b : Nat) (l : List TimerV) (id mom cy : Int) (e : (l.any fun x => x.id == id) = false) (hl : l.length < 8796093022208) (F : Hp) (hs : List Hp) (ho : LatC b l hs) : Spec Tryz.prog 153 [.pointer (some ⟨b, 0, none⟩), .int .i64 id, .int .i64 mom, .int .i64 cy] F hs fun v hs' => v = .bool true ∧ LatC b (l ++ [⟨id, mom, cy⟩]) hs' := by
  have ho' := ho
  have eo := offT_any e
  obtain ⟨hb, m, hm, p, q, r, rfl, hc, hmi⟩ := ho
  refine Spec.enter Tryz.func153 rfl Tryz.ntmps153 rfl fun B => ?_
  repeat' (first | ((refine WL.ex rfl (WO.callA Tryz.func151 rfl (by kernel_rfl) rfl (fun G hG => lwaits_any b l id G _ ho') ?_); rintro v own' ⟨hv, rfl⟩; rw [e] at hv; subst hv)) | ((refine WL.ex rfl (WO.callN Tryz.func163 rfl (by kernel_rfl) rfl (own := [p, q, r]) (by (exact tsA)) (fun G hG hh => push_any hb _ id mom G _ hc (by rw [List.length_map]; exact hl)) ?_); rintro v own' ⟨rfl, hc1⟩; obtain ⟨p1, q1, r1, rfl⟩ := hc1.three)) | ((apply WL.ex0; (apply WO.mapUpdate (h := hm); (exact rfl); (exact rfl); (exact rfl); (exact tkA); (exact hmi); intro hm' hmi'))) | (first | refine soA ?_ | refine sgA ?_ | refine sxA ?_ | refine sbA ?_ | refine fun (Q : Post) hQ => ?_ | refine fun (nb : Nat) => (?_ : WL _ _ _ _ _ _ _ _ _) | (refine WL.guard rfl rfl rfl (fun h => ?_) (fun h => ?_) <;> (try dsimp only at h))))
  (refine seE ?_)
  refine ⟨[one b (cells [.pointer (some ⟨hb, 0, none⟩), .map (some m)] 179), hm', p1, q1, r1], (by (exact keA)), rfl, hb, m, hm', p1, q1, r1, rfl, ?_, ?_⟩
  · have := hc1.setT (every := cy); rw [eo] at this; exact this
  · have := evD_set id mom cy l; rw [eo] at this; rw [this]; exact hmi'
theorem firstT_pop {hb : Nat} {l : List TimerV} {F : Hp} {hs : List Hp} {z : TimerV} (hz : FirstT l z) (ho : HeapC hb (l.map toHT) hs) : Spec Tryz.prog 162 [.pointer (some ⟨hb, 0, none⟩)] F hs fun v hs' => v = .tuple #[.int .i64 z.id, .int .i64 z.mom, .bool true] ∧ HeapC hb ((offT z.id l).map toHT) hs' :=
  (pop_any hb _ F hs ho).mono fun v hs' hp => by
    rcases hp with ⟨x, hx, hm, rfl, hc⟩ | ⟨he, _⟩
    · have : x = toHT z := ahead_tot (hm _ (List.mem_map.2 ⟨z, hz.1, rfl⟩) |> fun h => by obtain ⟨y, hy, rfl⟩ := List.mem_map.1 hx; exact hz.2 y hy) (hm _ (List.mem_map.2 ⟨z, hz.1, rfl⟩))
      subst this
      exact ⟨rfl, offT_map z.id l ▸ hc⟩
    · rw [List.map_eq_nil_iff] at he; subst he; exact nomatch hz.1
set_option maxHeartbeats 4000000 in
theorem lnext_any (b : Nat) (l : List TimerV) (now : Int) (F : Hp) (hs : List Hp) (ho : LatC b l hs) : Spec Tryz.prog 99 [.pointer (some ⟨b, 0, none⟩), .int .i64 now] F hs fun v hs' => (∃ x, FirstT l x ∧ x.mom ≤ now ∧ v = .tuple #[.int .i64 x.id, .int .i64 x.mom, .int .i64 x.every, .bool true] ∧ LatC b (offT x.id l) hs') ∨ ((∀ x ∈ l, now < x.mom) ∧ v = .tuple #[.int .i64 0, .int .i64 0, .int .i64 0, .bool false] ∧ hs' = hs) := by
  have hnd := ho.nd
  obtain ⟨hb, m, hm, p, q, r, rfl, hc, hmi⟩ := ho
  refine Spec.enter Tryz.func99 rfl Tryz.ntmps99 rfl fun B => ?_
  repeat' (first | refine soA ?_ | refine sgA ?_ | refine sxA ?_ | refine sbA ?_ | refine fun (Q : Post) hQ => ?_ | refine fun (nb : Nat) => (?_ : WL _ _ _ _ _ _ _ _ _) | (refine WL.guard rfl rfl rfl (fun h => ?_) (fun h => ?_) <;> (try dsimp only at h)))
  apply WL.ex
  · exact rfl
  refine WO.callN Tryz.func161 rfl (by kernel_rfl) rfl (own := [p, q, r]) (by (exact tsA)) (fun G hG hh => top_any hb _ G _ hc) ?_
  rintro v own' ⟨ht, rfl⟩
  rcases ht with ⟨x, hx, hxm, rfl⟩ | ⟨he, rfl⟩
  · obtain ⟨z, hz, rfl⟩ := firstT_of hx hxm
    by_cases c1 : now < z.mom
    · skip
      repeat' (first | ((apply WL.rd; (exact rfl); (exact Rn.cmp (b := true) rfl rfl (congrArg some (decide_eq_true c1))))) | (first | refine soA ?_ | refine sgA ?_ | refine sxA ?_ | refine sbA ?_ | refine fun (Q : Post) hQ => ?_ | refine fun (nb : Nat) => (?_ : WL _ _ _ _ _ _ _ _ _) | (refine WL.guard rfl rfl rfl (fun h => ?_) (fun h => ?_) <;> (try dsimp only at h))))
      (refine seE ?_)
      exact ⟨[one b (cells [.pointer (some ⟨hb, 0, none⟩), .map (some m)] 179), hm, p, q, r], (by (exact keA)), .inr ⟨notdue hz c1, rfl, rfl⟩⟩
    · have hev : evD l (toHT z).id = some (.int .i64 z.every) := evD_at hnd hz.1
      repeat' (first | ((apply WL.rd; (exact rfl); (exact Rn.cmp (b := false) rfl rfl (congrArg some (decide_eq_false c1))))) | ((refine WL.ex rfl (WO.callN Tryz.func162 rfl (by kernel_rfl) rfl (own := [p, q, r]) (by (exact tsA)) (fun G hG hh => firstT_pop hz hc) ?_); rintro v own' ⟨rfl, hc1⟩; obtain ⟨p1, q1, r1, rfl⟩ := hc1.three)) | ((apply WL.rd; (exact rfl); (exact Rn.lookupS (t := 177) (h := hm) rfl rfl (by simp) hmi hev))) | ((apply WL.ex0; (apply WO.delete (t := 177) (h := hm); (exact rfl); (exact rfl); (exact rfl); (exact tkA); (exact hmi); intro hm' hmi'))) | (first | refine soA ?_ | refine sgA ?_ | refine sxA ?_ | refine sbA ?_ | refine fun (Q : Post) hQ => ?_ | refine fun (nb : Nat) => (?_ : WL _ _ _ _ _ _ _ _ _) | (refine WL.guard rfl rfl rfl (fun h => ?_) (fun h => ?_) <;> (try dsimp only at h))))
      (refine seE ?_)
      refine ⟨[one b (cells [.pointer (some ⟨hb, 0, none⟩), .map (some m)] 179), hm', p1, q1, r1], (by (exact keA)), .inl ⟨z, hz, by omega, rfl, hb, m, hm', p1, q1, r1, rfl, hc1, ?_⟩⟩
      rw [evD_off]; exact hmi'
  · skip
    repeat' (first | refine soA ?_ | refine sgA ?_ | refine sxA ?_ | refine sbA ?_ | refine fun (Q : Post) hQ => ?_ | refine fun (nb : Nat) => (?_ : WL _ _ _ _ _ _ _ _ _) | (refine WL.guard rfl rfl rfl (fun h => ?_) (fun h => ?_) <;> (try dsimp only at h)))
    (refine seE ?_)
    refine ⟨[one b (cells [.pointer (some ⟨hb, 0, none⟩), .map (some m)] 179), hm, p, q, r], (by (exact keA)), .inr ⟨?_, rfl, rfl⟩⟩
    rw [List.map_eq_nil_iff] at he; subst he; exact fun x hx => nomatch hx
end Go.Proofs.YtflgnpidelkkpaaGreat
namespace Go.Proofs.YtflgnpidelkkpaaGreat
set_option maxRecDepth 8000
set_option maxHeartbeats 1000000
set_option linter.unusedVariables false
set_option linter.unusedSimpArgs false
attribute [local irreducible] W X WL WA WB WG WO Rn Own one splice Arr Spec WQ WH Qn
def longB (k : Int) : Bool := k == 1 || k == 2 || k == 5
def joinB (a b : IntervalV) : Bool := !(!(longB a.kind) || a.kind != b.kind || a.arg != b.arg || a.task != b.task || b.start != IntKind.i64.wrap (a.start + a.len))
def joinV (a b : IntervalV) : IntervalV := { a with len := IntKind.i64.wrap (a.len + b.len), cycles := IntKind.i64.wrap (a.cycles + b.cycles) }
set_option maxHeartbeats 1000000 in
theorem join_any (x y : IntervalV) (F : Hp) : Spec Tryz.prog 282 [x.val, y.val] F [] fun v hs => v = (if joinB x y = true then .tuple #[(joinV x y).val, .bool true] else .tuple #[(⟨0, 0, 0, 0, 0, 0⟩ : IntervalV).val, .bool false]) ∧ hs = [] := by
  refine Spec.enter Tryz.func282 rfl Tryz.ntmps282 rfl fun B => ?_
  repeat' (first | refine soA ?_ | refine sgA ?_ | refine sxA ?_ | refine sbA ?_ | refine fun (Q : Post) hQ => ?_ | refine fun (nb : Nat) => (?_ : WL _ _ _ _ _ _ _ _ _) | (refine WL.guard rfl rfl rfl (fun h => ?_) (fun h => ?_) <;> (try dsimp only at h)))
  refine W.cond rfl (fun h => ?_) (fun h => ?_)
  · repeat' (first | (first | (apply WL.rd; (exact rfl); (exact rqA)) | refine WL.nil ?_ | (apply WL.loadA; (exact rfl); (exact rfl); (exact atA); (exact rfl)) | refine WL.yes rfl rfl ?_ | refine WL.no rfl rfl rfl rfl rfl rfl ?_ | refine WL.no0 rfl rfl rfl rfl rfl ?_ | (refine WL.ex rfl (WO.box rfl rfl ?_); intro nb) | (refine WL.ex rfl (WO.alloc ?_); intro nb) | (apply WL.store; (exact rfl); (exact rfl); (exact atA); (exact rfl); (exact seA); (exact rpA)) | (apply WL.storeA; (exact rfl); (exact rfl); (exact atA); (exact rfl); (exact rfl); (exact rfl); (exact rpA)) | refine WG.start rfl rfl ?_ | (apply WL.ex; (exact rfl); (apply WO.buildSlice; (exact rfl); (exact rfl); (exact fpA); intro nb))) | (first | (apply WG.ex; (exact rfl); (exact rfl); (exact rfl); intro hb; (exact rqA)) | refine WG.or rfl rfl rfl ?_ | refine WG.and rfl rfl rfl ?_) | (first | (refine W.seqK fun Q hQ => ?_) | refine W.region ?_ | (refine W.blockK fun Q hQ => ?_) | refine W.skip ?_ | refine W.ret ?_ | refine W.exit ?_ | refine W.condT rfl ?_ | refine W.condF rfl ?_) | (first | refine Cont.nx (by assumption) _ _ ?_ | refine Cont.rt (by assumption) _ _ ?_ | refine Cont.ex (by assumption) _ _ _ ?_ | refine Blk.nx (by assumption) _ _ ?_ | refine Blk.ot (by assumption) _ _ ?_ | refine Blk.rt (by assumption) _ _ ?_ | refine Blk.ex (by assumption) _ _ _ rfl ?_ | refine Again.rt (by assumption) _ _ ?_ | refine Again.ex (by assumption) _ _ _ ?_ | refine Met.rt (by assumption) _ _ ?_ | refine Met.ex (by assumption) _ _ _ ?_))
    ((refine seE ?_); refine ⟨[], Keep.nil, ?_⟩)
    exact ⟨by rw [if_neg (by unfold joinB longB; rw [h]; decide)]; rfl, rfl⟩
  · repeat' (first | (first | (apply WL.rd; (exact rfl); (exact rqA)) | refine WL.nil ?_ | (apply WL.loadA; (exact rfl); (exact rfl); (exact atA); (exact rfl)) | refine WL.yes rfl rfl ?_ | refine WL.no rfl rfl rfl rfl rfl rfl ?_ | refine WL.no0 rfl rfl rfl rfl rfl ?_ | (refine WL.ex rfl (WO.box rfl rfl ?_); intro nb) | (refine WL.ex rfl (WO.alloc ?_); intro nb) | (apply WL.store; (exact rfl); (exact rfl); (exact atA); (exact rfl); (exact seA); (exact rpA)) | (apply WL.storeA; (exact rfl); (exact rfl); (exact atA); (exact rfl); (exact rfl); (exact rfl); (exact rpA)) | refine WG.start rfl rfl ?_ | (apply WL.ex; (exact rfl); (apply WO.buildSlice; (exact rfl); (exact rfl); (exact fpA); intro nb))) | (first | (apply WG.ex; (exact rfl); (exact rfl); (exact rfl); intro hb; (exact rqA)) | refine WG.or rfl rfl rfl ?_ | refine WG.and rfl rfl rfl ?_) | (first | (refine W.seqK fun Q hQ => ?_) | refine W.region ?_ | (refine W.blockK fun Q hQ => ?_) | refine W.skip ?_ | refine W.ret ?_ | refine W.exit ?_ | refine W.condT rfl ?_ | refine W.condF rfl ?_) | (first | refine Cont.nx (by assumption) _ _ ?_ | refine Cont.rt (by assumption) _ _ ?_ | refine Cont.ex (by assumption) _ _ _ ?_ | refine Blk.nx (by assumption) _ _ ?_ | refine Blk.ot (by assumption) _ _ ?_ | refine Blk.rt (by assumption) _ _ ?_ | refine Blk.ex (by assumption) _ _ _ rfl ?_ | refine Again.rt (by assumption) _ _ ?_ | refine Again.ex (by assumption) _ _ _ ?_ | refine Met.rt (by assumption) _ _ ?_ | refine Met.ex (by assumption) _ _ _ ?_))
    refine dra [(2, [11, 13]), (3, [])] [] ?_
    refine drp 14 0 1 ?_
    refine drl 14 1 0 3 ?_
    refine drp 14 2 7 ?_
    refine drl 14 3 1 15 ?_
    refine drp 14 4 31 ?_
    refine drp 14 5 63 ?_
    refine drl 14 6 0 127 ?_
    refine drp 14 7 255 ?_
    refine drl 14 8 1 511 ?_
    refine drp 14 9 1023 ?_
    refine drp 14 10 2047 ?_
    refine dr1 11 ?_
    refine drf 14 11 4095 ?_
    (refine swA ?_)
    refine ⟨piA, ?_⟩
    refine drp 14 12 8191 ?_
    refine dr1 13 ?_
    refine drf 14 13 16383 ?_
    (refine swA ?_)
    refine ⟨piA, ?_⟩
    refine drz ?_
    repeat' (first | refine soA ?_ | refine sgA ?_ | refine sxA ?_ | refine sbA ?_ | refine fun (Q : Post) hQ => ?_ | refine fun (nb : Nat) => (?_ : WL _ _ _ _ _ _ _ _ _) | (refine WL.guard rfl rfl rfl (fun h => ?_) (fun h => ?_) <;> (try dsimp only at h)))
    ((refine seE ?_); refine ⟨[], Keep.nil, ?_⟩)
    exact ⟨by rw [if_pos (by unfold joinB longB; rw [h]; decide)]; rfl, rfl⟩
theorem set_flat {α : Type} (f : α → List Value) (sz : Nat) (hsz : ∀ x, (f x).length = sz) (ys : List α) (l x : α) (sp : List Value) : splice ((ys ++ [l]).flatMap f ++ sp) (ys.length * sz) (f x) = (ys ++ [x]).flatMap f ++ sp := by
  have hl : (ys.flatMap f).length = ys.length * sz := flat_len f sz hsz ys
  unfold splice
  simp only [List.flatMap_append, List.flatMap_cons, List.flatMap_nil, List.append_nil, List.append_assoc]
  rw [← hl, List.take_left, List.drop_append, List.drop_eq_nil_of_le (by omega), hsz, ← hsz l]
  simp
theorem get_flat {α : Type} (f : α → List Value) (sz : Nat) (hsz : ∀ x, (f x).length = sz) (xs : List α) (i : Nat) (x : α) (sp : List Value) (h : xs[i]? = some x) : ∀ j v, (f x)[j]? = some v → (xs.flatMap f ++ sp)[i * sz + j]? = some v := fun j v hv => by
  have := flat_get f sz hsz xs i j x v h hv
  rw [List.getElem?_append_left (List.getElem?_eq_some_iff.1 this).1]
  exact this
def addV (xs : List IntervalV) (i : IntervalV) : List IntervalV := match xs.reverse with
  | [] => [i]
  | l :: r => if joinB l i = true then (joinV l i :: r).reverse else (i :: l :: r).reverse
theorem addV_yes {ys : List IntervalV} {l i : IntervalV} (h : joinB l i = true) : addV (ys ++ [l]) i = ys ++ [joinV l i] := by simp [addV, h]
theorem addV_no {ys : List IntervalV} {l i : IntervalV} (h : joinB l i = false) : addV (ys ++ [l]) i = ys ++ [l] ++ [i] := by simp [addV, h]
def TraceO (b : Nat) (xs : List IntervalV) (hs : List Hp) : Prop := ∃ A c h, hs = [one b (cells [.slice A xs.length c] 162), h] ∧ Arr 52 6 xs.length (xs.flatMap IntervalV.enc) A c h
theorem join_yes {x y : IntervalV} (h : joinB x y = true) (F : Hp) : Spec Tryz.prog 282 [x.val, y.val] F [] fun v hs => v = .tuple #[(joinV x y).val, .bool true] ∧ hs = [] :=
  (join_any x y F).mono fun v hs ⟨h1, h2⟩ => ⟨by rw [h1, if_pos h], h2⟩
theorem join_no {x y : IntervalV} (h : joinB x y = false) (F : Hp) : Spec Tryz.prog 282 [x.val, y.val] F [] fun v hs => v = .tuple #[(⟨0, 0, 0, 0, 0, 0⟩ : IntervalV).val, .bool false] ∧ hs = [] :=
  (join_any x y F).mono fun v hs ⟨h1, h2⟩ => ⟨by rw [h1, if_neg (by simp [h])], h2⟩
set_option maxHeartbeats 2000000 in
theorem traceAdd_any (b : Nat) (xs : List IntervalV) (i : IntervalV) (F : Hp) (hs : List Hp) (ht : TraceO b xs hs) (hfit : (xs.length + 1) * 48 ≤ 140737488355328) :
    Spec Tryz.prog 267 [.pointer (some ⟨b, 0, none⟩), i.val] F hs fun v hs' => TraceO b (addV xs i) hs' := by
  obtain ⟨A, c, h, rfl, ha⟩ := ht
  rcases snoc_cases xs with rfl | ⟨ys, l, rfl⟩
  · refine Spec.enter Tryz.func267 rfl Tryz.ntmps267 rfl fun B => ?_
    repeat' (first | refine soA ?_ | refine sgA ?_ | refine sxA ?_ | refine sbA ?_ | refine fun (Q : Post) hQ => ?_ | refine fun (nb : Nat) => (?_ : WL _ _ _ _ _ _ _ _ _) | (refine WL.guard rfl rfl rfl (fun h => ?_) (fun h => ?_) <;> (try dsimp only at h)))
    refine dra [(0, [10]), (3, [])] [] ?_
    refine drp 11 0 1 ?_
    refine drp 11 1 3 ?_
    refine drp 11 2 7 ?_
    refine drp 11 3 15 ?_
    refine drl 11 4 0 31 ?_
    refine drl 11 5 1 63 ?_
    refine dr1 6 ?_
    refine dre 11 6 127 ?_
    (apply WO.buildSlice; (exact rfl); (exact rfl); (exact fpA); intro nb)
    refine ⟨piA, ?_⟩
    refine dr1 7 ?_
    refine dre 11 7 255 ?_
    (apply WO.append (h := h) (news := i.enc) (m := 1); (exact rfl); (exact rfl); (exact tkA); (exact ha); (exact rfl); (decide); (exact rfl); (apply RowAt.cells; (exact atA)); (exact rfl); (simp); (simp); intro A' c' h' ha')
    refine ⟨piA, ?_⟩
    refine drp 11 8 511 ?_
    refine drp 11 9 1023 ?_
    refine dr1 10 ?_
    refine drf 11 10 2047 ?_
    (refine swA ?_)
    refine ⟨piA, ?_⟩
    refine drz ?_
    repeat' (first | refine soA ?_ | refine sgA ?_ | refine sxA ?_ | refine sbA ?_ | refine fun (Q : Post) hQ => ?_ | refine fun (nb : Nat) => (?_ : WL _ _ _ _ _ _ _ _ _) | (refine WL.guard rfl rfl rfl (fun h => ?_) (fun h => ?_) <;> (try dsimp only at h)))
    (refine seE ?_)
    exact ⟨_, (by (exact keA)), A', c', h', rfl, ha'⟩
  · have e : (ys ++ [l]).length = ys.length + 1 := by simp
    obtain ⟨g, sp, rfl, rfl, hlen, hle, hmax⟩ := ha.some (by rw [e]; omega)
    rw [e] at hle hfit
    have hcs := ha.len
    have hget : ∀ j v, l.enc[j]? = some v → ((ys ++ [l]).flatMap IntervalV.enc ++ sp)[0 + ys.length * 6 + j]? = some v := by
      intro j v hv
      rw [Nat.zero_add]
      exact get_flat IntervalV.enc 6 IntervalV.enc_len _ _ l sp (by simp) j v hv
    have hset : ∀ x : IntervalV, splice ((ys ++ [l]).flatMap IntervalV.enc ++ sp) (0 + ys.length * 6) x.enc = (ys ++ [x]).flatMap IntervalV.enc ++ sp := fun x => by
      rw [Nat.zero_add]; exact set_flat IntervalV.enc 6 IntervalV.enc_len ys l x sp
    have hLl : 0 + ys.length * 6 + 6 ≤ ((ys ++ [l]).flatMap IntervalV.enc ++ sp).length := by rw [List.length_append, hcs, e]; omega
    have hlen2 : ∀ x : IntervalV, Arr 52 6 (ys ++ [x]).length ((ys ++ [x]).flatMap IntervalV.enc) (some ⟨g, 0, none⟩) c (one g (cells ((ys ++ [x]).flatMap IntervalV.enc ++ sp) 52)) := fun x =>
      Arr.mk (flat_len _ 6 IntervalV.enc_len _) (by rw [← hlen, List.length_append, List.length_append, flat_len _ 6 IntervalV.enc_len, flat_len _ 6 IntervalV.enc_len]; simp) (by simp; omega) hmax
    have hlen2 := Lib.hid hlen2
    have hset' := Lib.hid hset
    clear hset
    have ha' := ha
    rw [e] at ha'
    clear ha
    rw [e]
    generalize (ys ++ [l]).flatMap IntervalV.enc ++ sp = L at *
    by_cases hj : joinB l i = true
    · rw [addV_yes hj]
      refine Spec.enter Tryz.func267 rfl Tryz.ntmps267 rfl fun B => ?_
      repeat' (first | refine soA ?_ | refine sgA ?_ | refine sxA ?_ | refine sbA ?_ | refine fun (Q : Post) hQ => ?_ | refine fun (nb : Nat) => (?_ : WL _ _ _ _ _ _ _ _ _) | (refine WL.guard rfl rfl rfl (fun h => ?_) (fun h => ?_) <;> (try dsimp only at h)))
      refine W.cond rfl (fun h => ?_) (fun h => ?_)
      · repeat' (first | (first | (apply WL.rd; (exact rfl); (exact rqA)) | refine WL.nil ?_ | (apply WL.loadA; (exact rfl); (exact rfl); (exact atA); (exact rfl)) | refine WL.yes rfl rfl ?_ | refine WL.no rfl rfl rfl rfl rfl rfl ?_ | refine WL.no0 rfl rfl rfl rfl rfl ?_ | (refine WL.ex rfl (WO.box rfl rfl ?_); intro nb) | (refine WL.ex rfl (WO.alloc ?_); intro nb) | (apply WL.store; (exact rfl); (exact rfl); (exact atA); (exact rfl); (exact seA); (exact rpA)) | (apply WL.storeA; (exact rfl); (exact rfl); (exact atA); (exact rfl); (exact rfl); (exact rfl); (exact rpA)) | refine WG.start rfl rfl ?_ | (apply WL.ex; (exact rfl); (apply WO.buildSlice; (exact rfl); (exact rfl); (exact fpA); intro nb))) | (first | (apply WG.ex; (exact rfl); (exact rfl); (exact rfl); intro hb; (exact rqA)) | refine WG.or rfl rfl rfl ?_ | refine WG.and rfl rfl rfl ?_) | (first | (refine W.seqK fun Q hQ => ?_) | refine W.region ?_ | (refine W.blockK fun Q hQ => ?_) | refine W.skip ?_ | refine W.ret ?_ | refine W.exit ?_ | refine W.condT rfl ?_ | refine W.condF rfl ?_) | (first | refine Cont.nx (by assumption) _ _ ?_ | refine Cont.rt (by assumption) _ _ ?_ | refine Cont.ex (by assumption) _ _ _ ?_ | refine Blk.nx (by assumption) _ _ ?_ | refine Blk.ot (by assumption) _ _ ?_ | refine Blk.rt (by assumption) _ _ ?_ | refine Blk.ex (by assumption) _ _ _ rfl ?_ | refine Again.rt (by assumption) _ _ ?_ | refine Again.ex (by assumption) _ _ _ ?_ | refine Met.rt (by assumption) _ _ ?_ | refine Met.ex (by assumption) _ _ _ ?_))
        refine dra [(0, []), (3, [])] [(one g (cells L 52), [])] ?_
        refine drp 15 0 1 ?_
        refine drp 15 1 3 ?_
        refine drp 15 2 7 ?_
        refine drl 15 3 0 15 ?_
        refine drp 15 4 31 ?_
        refine drp 15 5 63 (hy := by (exact Rn.indexAddr ys.length rfl rfl (by omega) (by omega))) ?_
        refine drl 15 6 2 127 (hy := by (apply Rn.loadS; (exact rfl); (exact CellsAt.mk At.one hget); (exact rfl))) ?_
        refine drl 15 7 1 255 ?_
        refine dr2 8 12 ?_ ?_
        refine dre 15 8 511 ?_
        (refine WO.call0 Tryz.func282 rfl (by kernel_rfl) rfl (fun G _ _ => join_yes hj G) ?_; rintro v own' ⟨rfl, rfl⟩)
        refine ⟨piA, ?_⟩
        refine drp 15 9 1023 ?_
        refine drp 15 10 2047 ?_
        refine drp 15 11 4095 ?_
        refine dr1 12 ?_
        refine dre 15 12 8191 ?_
        (refine WO.alloc ?_; intro nb)
        refine ⟨piA, ?_⟩
        refine dr1 13 ?_
        refine drf 15 13 16383 ?_
        (refine swA ?_)
        refine ⟨piA, ?_⟩
        refine drp 15 14 32767 ?_
        refine drz ?_
        rotate_left 1
        refine dre 15 12 4351 ?_
        (refine WO.alloc ?_; intro nb)
        refine ⟨piA, ?_⟩
        refine dr1 8 ?_
        refine dre 15 8 4607 ?_
        (refine WO.call0 Tryz.func282 rfl (by kernel_rfl) rfl (fun G _ _ => join_yes hj G) ?_; rintro v own' ⟨rfl, rfl⟩)
        refine ⟨piA, ?_⟩
        refine drp 15 9 5119 ?_
        refine drp 15 10 6143 ?_
        refine drp 15 11 8191 ?_
        refine dr1 13 ?_
        refine drf 15 13 16383 ?_
        (refine swA ?_)
        refine ⟨piA, ?_⟩
        refine drp 15 14 32767 ?_
        refine drz ?_
        all_goals
          repeat' (first | refine soA ?_ | refine sgA ?_ | refine sxA ?_ | refine sbA ?_ | refine fun (Q : Post) hQ => ?_ | refine fun (nb : Nat) => (?_ : WL _ _ _ _ _ _ _ _ _) | (refine WL.guard rfl rfl rfl (fun h => ?_) (fun h => ?_) <;> (try dsimp only at h)))
          refine dra [(0, []), (5, [])] [] ?_
          refine drp 8 0 1 ?_
          refine drp 8 1 3 ?_
          refine drp 8 2 7 ?_
          refine drl 8 3 0 15 ?_
          refine drp 8 4 31 ?_
          refine drl 8 5 1 63 ?_
          refine drp 8 6 127 (hy := by (exact Rn.indexAddr ys.length rfl rfl (by omega) (by omega))) ?_
          refine dr1 7 ?_
          refine drf 8 7 255 ?_
          (apply WO.storeC (l := L) (vs := (joinV l i).enc) (b := g) (o := 0 + ys.length * 6); (exact rfl); (exact rfl); (exact rfl); (exact rfl); (exact rfl); (exact rpA); (exact hLl))
          refine ⟨piA, ?_⟩
          refine drz ?_
          repeat' (first | refine soA ?_ | refine sgA ?_ | refine sxA ?_ | refine sbA ?_ | refine fun (Q : Post) hQ => ?_ | refine fun (nb : Nat) => (?_ : WL _ _ _ _ _ _ _ _ _) | (refine WL.guard rfl rfl rfl (fun h => ?_) (fun h => ?_) <;> (try dsimp only at h)))
          (refine seE ?_)
          rw [hset'.out]
          refine ⟨[one b (cells [.slice (some ⟨g, 0, none⟩) (ys.length + 1) c] 162), one g (cells ((ys ++ [joinV l i]).flatMap IntervalV.enc ++ sp) 52)], (by (exact keA)), some ⟨g, 0, none⟩, c, _, ?_, hlen2.out (joinV l i)⟩
          rw [show (ys ++ [joinV l i]).length = ys.length + 1 by simp]
      · exfalso; simp at h <;> omega
    · have hj : joinB l i = false := by simpa using hj
      rw [addV_no hj]
      refine Spec.enter Tryz.func267 rfl Tryz.ntmps267 rfl fun B => ?_
      repeat' (first | refine soA ?_ | refine sgA ?_ | refine sxA ?_ | refine sbA ?_ | refine fun (Q : Post) hQ => ?_ | refine fun (nb : Nat) => (?_ : WL _ _ _ _ _ _ _ _ _) | (refine WL.guard rfl rfl rfl (fun h => ?_) (fun h => ?_) <;> (try dsimp only at h)))
      refine W.cond rfl (fun h => ?_) (fun h => ?_)
      · repeat' (first | (first | (apply WL.rd; (exact rfl); (exact rqA)) | refine WL.nil ?_ | (apply WL.loadA; (exact rfl); (exact rfl); (exact atA); (exact rfl)) | refine WL.yes rfl rfl ?_ | refine WL.no rfl rfl rfl rfl rfl rfl ?_ | refine WL.no0 rfl rfl rfl rfl rfl ?_ | (refine WL.ex rfl (WO.box rfl rfl ?_); intro nb) | (refine WL.ex rfl (WO.alloc ?_); intro nb) | (apply WL.store; (exact rfl); (exact rfl); (exact atA); (exact rfl); (exact seA); (exact rpA)) | (apply WL.storeA; (exact rfl); (exact rfl); (exact atA); (exact rfl); (exact rfl); (exact rfl); (exact rpA)) | refine WG.start rfl rfl ?_ | (apply WL.ex; (exact rfl); (apply WO.buildSlice; (exact rfl); (exact rfl); (exact fpA); intro nb))) | (first | (apply WG.ex; (exact rfl); (exact rfl); (exact rfl); intro hb; (exact rqA)) | refine WG.or rfl rfl rfl ?_ | refine WG.and rfl rfl rfl ?_) | (first | (refine W.seqK fun Q hQ => ?_) | refine W.region ?_ | (refine W.blockK fun Q hQ => ?_) | refine W.skip ?_ | refine W.ret ?_ | refine W.exit ?_ | refine W.condT rfl ?_ | refine W.condF rfl ?_) | (first | refine Cont.nx (by assumption) _ _ ?_ | refine Cont.rt (by assumption) _ _ ?_ | refine Cont.ex (by assumption) _ _ _ ?_ | refine Blk.nx (by assumption) _ _ ?_ | refine Blk.ot (by assumption) _ _ ?_ | refine Blk.rt (by assumption) _ _ ?_ | refine Blk.ex (by assumption) _ _ _ rfl ?_ | refine Again.rt (by assumption) _ _ ?_ | refine Again.ex (by assumption) _ _ _ ?_ | refine Met.rt (by assumption) _ _ ?_ | refine Met.ex (by assumption) _ _ _ ?_))
        refine dra [(0, []), (3, [])] [(one g (cells L 52), [])] ?_
        refine drp 15 0 1 ?_
        refine drp 15 1 3 ?_
        refine drp 15 2 7 ?_
        refine drl 15 3 0 15 ?_
        refine drp 15 4 31 ?_
        refine drp 15 5 63 (hy := by (exact Rn.indexAddr ys.length rfl rfl (by omega) (by omega))) ?_
        refine drl 15 6 2 127 (hy := by (apply Rn.loadS; (exact rfl); (exact CellsAt.mk At.one hget); (exact rfl))) ?_
        refine drl 15 7 1 255 ?_
        refine dr2 8 12 ?_ ?_
        refine dre 15 8 511 ?_
        (refine WO.call0 Tryz.func282 rfl (by kernel_rfl) rfl (fun G _ _ => join_no hj G) ?_; rintro v own' ⟨rfl, rfl⟩)
        refine ⟨piA, ?_⟩
        refine drp 15 9 1023 ?_
        refine drp 15 10 2047 ?_
        refine drp 15 11 4095 ?_
        refine dr1 12 ?_
        refine dre 15 12 8191 ?_
        (refine WO.alloc ?_; intro nb)
        refine ⟨piA, ?_⟩
        refine dr1 13 ?_
        refine drf 15 13 16383 ?_
        (refine swA ?_)
        refine ⟨piA, ?_⟩
        refine drp 15 14 32767 ?_
        refine drz ?_
        rotate_left 1
        refine dre 15 12 4351 ?_
        (refine WO.alloc ?_; intro nb)
        refine ⟨piA, ?_⟩
        refine dr1 8 ?_
        refine dre 15 8 4607 ?_
        (refine WO.call0 Tryz.func282 rfl (by kernel_rfl) rfl (fun G _ _ => join_no hj G) ?_; rintro v own' ⟨rfl, rfl⟩)
        refine ⟨piA, ?_⟩
        refine drp 15 9 5119 ?_
        refine drp 15 10 6143 ?_
        refine drp 15 11 8191 ?_
        refine dr1 13 ?_
        refine drf 15 13 16383 ?_
        (refine swA ?_)
        refine ⟨piA, ?_⟩
        refine drp 15 14 32767 ?_
        refine drz ?_
        all_goals
          repeat' (first | refine soA ?_ | refine sgA ?_ | refine sxA ?_ | refine sbA ?_ | refine fun (Q : Post) hQ => ?_ | refine fun (nb : Nat) => (?_ : WL _ _ _ _ _ _ _ _ _) | (refine WL.guard rfl rfl rfl (fun h => ?_) (fun h => ?_) <;> (try dsimp only at h)))
          refine dra [(0, [10]), (3, [])] [] ?_
          refine drp 11 0 1 ?_
          refine drp 11 1 3 ?_
          refine drp 11 2 7 ?_
          refine drp 11 3 15 ?_
          refine drl 11 4 0 31 ?_
          refine drl 11 5 1 63 ?_
          refine dr1 6 ?_
          refine dre 11 6 127 ?_
          (apply WO.buildSlice; (exact rfl); (exact rfl); (exact fpA); intro nb)
          refine ⟨piA, ?_⟩
          refine dr1 7 ?_
          refine dre 11 7 255 ?_
          (apply WO.append (h := one g (cells L 52)) (news := i.enc) (m := 1); (exact rfl); (exact rfl); (exact tkA); (exact ha'); (exact rfl); (decide); (exact rfl); (apply RowAt.cells; (exact atA)); (exact rfl); (first | omega | (simp; omega)); (first | omega | (simp; omega)); intro A' c' h' ha2)
          refine ⟨piA, ?_⟩
          refine drp 11 8 511 ?_
          refine drp 11 9 1023 ?_
          refine dr1 10 ?_
          refine drf 11 10 2047 ?_
          (refine swA ?_)
          refine ⟨piA, ?_⟩
          refine drz ?_
          repeat' (first | refine soA ?_ | refine sgA ?_ | refine sxA ?_ | refine sbA ?_ | refine fun (Q : Post) hQ => ?_ | refine fun (nb : Nat) => (?_ : WL _ _ _ _ _ _ _ _ _) | (refine WL.guard rfl rfl rfl (fun h => ?_) (fun h => ?_) <;> (try dsimp only at h)))
          (refine seE ?_)
          refine ⟨[one b (cells [.slice A' (ys.length + 1 + 1) c'] 162), h'], (by (exact keA)), A', c', h', ?_, ?_⟩
          · rw [show (ys ++ [l] ++ [i]).length = ys.length + 1 + 1 by simp]
          · rw [show (ys ++ [l] ++ [i]).length = ys.length + 1 + 1 by simp, List.flatMap_append]; simpa using ha2
      · exfalso; simp at h <;> omega
end Go.Proofs.YtflgnpidelkkpaaGreat
