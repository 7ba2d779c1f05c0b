/- part 17 of the proof: contracts of the functions that the law reaches, and plain laws. -/
import Derived.Test.YtflgnpidelkkpaaGreatMq7
import Derived.Test.YtflgnpidelkkpaaGreatMq16
import Derived.Test.YtflgnpidelkkpaaGreatMq1
namespace Go.Proofs.YtflgnpidelkkpaaGreat
set_option maxRecDepth 8000
set_option maxHeartbeats 1000000
set_option linter.unusedVariables false
set_option linter.unusedSimpArgs false
attribute [local irreducible] W X WL WA WB WG WO Rn Own one splice Arr Spec WQ WH Qn
def HeapC (b : Nat) (l : List HI) (hs : List Hp) : Prop := ∃ arr, HeapO b arr hs ∧ Hpd (gt arr) arr.length ∧ arr.Perm l
theorem HeapC.perm {b : Nat} {l l' : List HI} {hs : List Hp} (h : HeapC b l hs) (p : l.Perm l') : HeapC b l' hs := by
  obtain ⟨arr, h1, h2, h3⟩ := h
  exact ⟨arr, h1, h2, h3.trans p⟩
theorem HeapC.nd {b : Nat} {l : List HI} {hs : List Hp} (h : HeapC b l hs) : Nd l := by
  obtain ⟨arr, ⟨_, _, _, _, _, _, _, _, h4, _⟩, h2, h3⟩ := h
  exact h4.perm h3
theorem new_any (F : Hp) : Spec Tryz.prog 123 [] F [] fun v hs => ∃ b, v = .pointer (some ⟨b, 0, none⟩) ∧ HeapC b [] hs := by
  refine Spec.enter Tryz.func123 rfl Tryz.ntmps123 rfl fun B => ?_
  repeat' (first | ((refine WL.ex rfl (WO.makeMap ?_); intro m hm hmi)) | (first | refine soA ?_ | refine sgA ?_ | refine sxA ?_ | refine sbA ?_ | refine fun (Q : Post) hQ => ?_ | refine fun (nb : Nat) => (?_ : WL _ _ _ _ _ _ _ _ _) | (refine WL.guard rfl rfl rfl (fun h => ?_) (fun h => ?_) <;> (try dsimp only at h))))
  refine X.pad ?_
  (refine seE ?_)
  refine ⟨[one nb (cells [.slice none 0 0, .map (some m)] 218), Hp.none, hm], (by (exact keA)), nb, rfl, [], ⟨none, 0, m, Hp.none, hm, rfl, Arr.nil _ _, ?_, ?_, by simp⟩, fun i h0 hi => by simp at hi, .refl _⟩
  · exact hmi
  · exact List.nodup_nil
theorem len_any (b : Nat) (l : List HI) (F : Hp) (hs : List Hp) (ho : HeapC b l hs) : Spec Tryz.prog 215 [.pointer (some ⟨b, 0, none⟩)] F hs fun v hs' => v = .int .i64 (l.length : Nat) ∧ hs' = hs := by
  obtain ⟨arr, ⟨A, c, m, ha, hm, rfl, harr, hmap, hnd, hbd⟩, hh, hp⟩ := ho
  refine Spec.enter Tryz.func215 rfl Tryz.ntmps215 rfl fun B => ?_
  repeat' (first | refine soA ?_ | refine sgA ?_ | refine sxA ?_ | refine sbA ?_ | refine fun (Q : Post) hQ => ?_ | refine fun (nb : Nat) => (?_ : WL _ _ _ _ _ _ _ _ _) | (refine WL.guard rfl rfl rfl (fun h => ?_) (fun h => ?_) <;> (try dsimp only at h)))
  (refine seE ?_)
  exact ⟨_, keep_self _, by rw [hp.length_eq], rfl⟩
theorem key_any (b : Nat) (l : List HI) (id : Int) (F : Hp) (hs : List Hp) (ho : HeapC b l hs) : Spec Tryz.prog 205 [.pointer (some ⟨b, 0, none⟩), .int .i64 id] F hs fun v hs' => ((∃ x ∈ l, x.id = id ∧ v = .tuple #[.int .i64 x.key, .bool true]) ∨ (∀ x ∈ l, x.id ≠ id) ∧ v = .tuple #[.int .i64 0, .bool false]) ∧ hs' = hs := by
  obtain ⟨arr, ⟨A, c, m, ha, hm, rfl, harr, hmap, hnd, hbd⟩, hh, hp⟩ := ho
  refine Spec.enter Tryz.func205 rfl Tryz.ntmps205 rfl fun B => ?_
  cases hD : atD arr id with
  | none =>
    repeat' (first | ((apply WL.rd; (exact rfl); (apply Rn.lookupOkN (h := hm) (D := atD arr); (exact rfl); (exact rfl); (simp); (exact hmap); (exact hD)))) | (first | refine soA ?_ | refine sgA ?_ | refine sxA ?_ | refine sbA ?_ | refine fun (Q : Post) hQ => ?_ | refine fun (nb : Nat) => (?_ : WL _ _ _ _ _ _ _ _ _) | (refine WL.guard rfl rfl rfl (fun h => ?_) (fun h => ?_) <;> (try dsimp only at h))))
    (refine seE ?_)
    refine ⟨_, keep_self _, .inr ⟨fun x hx => atD_none hD x (hp.mem_iff.2 hx), rfl⟩, rfl⟩
  | some w =>
    obtain ⟨n, rfl, hn, hid⟩ := atD_some hnd hD
    obtain ⟨g, sp, rfl, rfl, h1, h2, h3⟩ := harr.some (by omega)
    have gn := get_flat' HI.enc 2 HI.enc_len arr n _ sp (gt_get hn)
    repeat' (first | ((apply WL.rd; (exact rfl); (apply Rn.lookupOkS (h := hm) (D := atD arr); (exact rfl); (exact rfl); (simp); (exact hmap); (exact hD)))) | ((apply WL.rd; (exact rfl); (exact Rn.indexAddr n rfl rfl rfl hn))) | ((apply WL.rd; (exact rfl); (apply Rn.load; (exact rfl); apply CellAt.mk; (focus (apply At.there; exact At.one)); (exact gn 0 _ rfl)))) | (first | refine soA ?_ | refine sgA ?_ | refine sxA ?_ | refine sbA ?_ | refine fun (Q : Post) hQ => ?_ | refine fun (nb : Nat) => (?_ : WL _ _ _ _ _ _ _ _ _) | (refine WL.guard rfl rfl rfl (fun h => ?_) (fun h => ?_) <;> (try dsimp only at h))))
    (refine seE ?_)
    refine ⟨_, keep_self _, .inl ⟨gt arr n, hp.mem_iff.1 ?_, hid, rfl⟩, rfl⟩
    rw [gt_eq hn]; exact List.getElem_mem hn
set_option maxHeartbeats 1000000 in
theorem top_any (b : Nat) (l : List HI) (F : Hp) (hs : List Hp) (ho : HeapC b l hs) : Spec Tryz.prog 161 [.pointer (some ⟨b, 0, none⟩)] F hs fun v hs' => ((∃ x ∈ l, (∀ y ∈ l, ahead y x = false) ∧ v = .tuple #[.int .i64 x.id, .int .i64 x.key, .bool true]) ∨ l = [] ∧ v = .tuple #[.int .i64 0, .int .i64 0, .bool false]) ∧ hs' = hs := by
  have ho0 := ho
  obtain ⟨arr, ⟨A, c, m, ha, hm, rfl, harr, hmap, hnd, hbd⟩, hh, hp⟩ := ho
  refine Spec.enter Tryz.func161 rfl Tryz.ntmps161 rfl fun B => ?_
  by_cases h0 : l.length = 0
  · skip
    repeat' (first | ((refine WL.ex rfl (WO.callN Tryz.func215 rfl (by kernel_rfl) rfl (by (exact tsA)) (fun G hG hh => len_any b l G _ ho0) ?_); rintro v own' ⟨rfl, rfl⟩)) | (first | refine soA ?_ | refine sgA ?_ | refine sxA ?_ | refine sbA ?_ | refine fun (Q : Post) hQ => ?_ | refine fun (nb : Nat) => (?_ : WL _ _ _ _ _ _ _ _ _) | (refine WL.guard rfl rfl rfl (fun h => ?_) (fun h => ?_) <;> (try dsimp only at h))))
    refine W.cond rfl (fun h => ?_) (fun h => ?_) <;> (try simp only [beq_iff_eq, bne_iff_ne, decide_eq_true_eq, decide_eq_false_iff_not, beq_eq_false_iff_ne, bne_eq_false_iff_eq, Bool.not_true, Bool.not_false, ne_eq, Int.not_lt, Int.not_le, Bool.not_eq_true', Bool.not_eq_false', Bool.not_eq_eq_eq_not] at h)
    · skip
      repeat' (first | refine soA ?_ | refine sgA ?_ | refine sxA ?_ | refine sbA ?_ | refine fun (Q : Post) hQ => ?_ | refine fun (nb : Nat) => (?_ : WL _ _ _ _ _ _ _ _ _) | (refine WL.guard rfl rfl rfl (fun h => ?_) (fun h => ?_) <;> (try dsimp only at h)))
      (refine seE ?_)
      exact ⟨_, keep_app _ _, .inr ⟨List.length_eq_zero_iff.1 h0, rfl⟩, rfl⟩
    · exfalso; omega
  · have hl := hp.length_eq
    have hn : 0 < arr.length := by omega
    obtain ⟨g, sp, rfl, rfl, h1, h2, h3⟩ := harr.some hn
    have gn := get_flat' HI.enc 2 HI.enc_len arr 0 _ sp (gt_get hn)
    repeat' (first | ((refine WL.ex rfl (WO.callN Tryz.func215 rfl (by kernel_rfl) rfl (by (exact tsA)) (fun G hG hh => len_any b l G _ ho0) ?_); rintro v own' ⟨rfl, rfl⟩)) | (first | refine soA ?_ | refine sgA ?_ | refine sxA ?_ | refine sbA ?_ | refine fun (Q : Post) hQ => ?_ | refine fun (nb : Nat) => (?_ : WL _ _ _ _ _ _ _ _ _) | (refine WL.guard rfl rfl rfl (fun h => ?_) (fun h => ?_) <;> (try dsimp only at h))))
    refine W.cond rfl (fun h => ?_) (fun h => ?_) <;> (try simp only [beq_iff_eq, bne_iff_ne, decide_eq_true_eq, decide_eq_false_iff_not, beq_eq_false_iff_ne, bne_eq_false_iff_eq, Bool.not_true, Bool.not_false, ne_eq, Int.not_lt, Int.not_le, Bool.not_eq_true', Bool.not_eq_false', Bool.not_eq_eq_eq_not] at h)
    · exfalso; omega
    · skip
      repeat' (first | refine soA ?_ | refine sgA ?_ | refine sxA ?_ | refine sbA ?_ | refine fun (Q : Post) hQ => ?_ | refine fun (nb : Nat) => (?_ : WL _ _ _ _ _ _ _ _ _) | (refine WL.guard rfl rfl rfl (fun h => ?_) (fun h => ?_) <;> (try dsimp only at h)))
      refine dra [(0, [])] [(one g (cells (arr.flatMap HI.enc ++ sp) 249), [])] ?_
      refine drp 17 0 1 ?_
      refine drp 17 1 3 ?_
      refine drp 17 2 7 ?_
      refine drl 17 3 0 15 ?_
      refine drp 17 4 31 (hy := by (exact Rn.indexAddr 0 rfl rfl rfl hn)) ?_
      refine drp 17 5 63 ?_
      refine drl 17 6 1 127 (hy := by (exact Rn.load rfl (.mk At.one (gn 1 _ rfl)))) ?_
      refine drp 17 7 255 ?_
      refine drp 17 8 511 ?_
      refine drp 17 9 1023 ?_
      refine drl 17 10 0 2047 ?_
      refine drp 17 11 4095 (hy := by (exact Rn.indexAddr 0 rfl rfl rfl hn)) ?_
      refine drp 17 12 8191 ?_
      refine drl 17 13 1 16383 (hy := by (exact Rn.load rfl (.mk At.one (gn 0 _ rfl)))) ?_
      refine drp 17 14 32767 ?_
      refine drp 17 15 65535 ?_
      refine drp 17 16 131071 ?_
      refine drz ?_
      repeat' (first | refine soA ?_ | refine sgA ?_ | refine sxA ?_ | refine sbA ?_ | refine fun (Q : Post) hQ => ?_ | refine fun (nb : Nat) => (?_ : WL _ _ _ _ _ _ _ _ _) | (refine WL.guard rfl rfl rfl (fun h => ?_) (fun h => ?_) <;> (try dsimp only at h)))
      (refine seE ?_)
      refine ⟨_, keep_app _ _, .inl ⟨gt arr 0, hp.mem_iff.1 ?_, fun y hy => ?_, rfl⟩, rfl⟩
      · rw [gt_eq hn]; exact List.getElem_mem hn
      · obtain ⟨i, hi, rfl⟩ := List.getElem_of_mem (hp.mem_iff.2 hy)
        rw [← gt_eq hi]
        exact hh.top i hi
end Go.Proofs.YtflgnpidelkkpaaGreat
namespace Go.Proofs.YtflgnpidelkkpaaGreat
set_option maxRecDepth 8000
set_option maxHeartbeats 1000000
set_option linter.unusedVariables false
set_option linter.unusedSimpArgs false
attribute [local irreducible] W X WL WA WB WG WO Rn Own one splice Arr Spec WQ WH Qn
theorem look_at {a : List HI} {n : Nat} {x : HI} (h : Nd a) (hn : n < a.length) (e : gt a n = x) : atD a x.id = some (.int .i64 (n : Nat)) := e ▸ atD_look h hn
structure PF (arr arr1 : List HI) (x : HI) (n N : Nat) : Prop where
  len : arr1.length = N
  lt : n < N
  nd : Nd arr1
  at' : atD arr1 = upd (atD arr) x.id (some (.int .i64 (n : Nat)))
  exc : Exc (gt arr1) arr1.length n
  it : gt arr1 n = x
  perm : arr1.Perm (x :: off x.id arr)
theorem PF.set {arr : List HI} (h : Nd arr) (hh : Hpd (gt arr) arr.length) {n : Nat} (hn : n < arr.length) {x : HI} (hx : (gt arr n).id = x.id) : PF arr (arr.set n x) x n arr.length := by
  refine ⟨by simp, hn, set_nd h hn hx.symm, set_atD h hn hx.symm, ?_, by rw [set_gt x hn, if_pos rfl], by rw [← hx]; exact set_perm h hn x⟩
  rw [List.length_set]
  exact (Exc.of_heap hh x).congr hn fun i hi => set_gt x hi
theorem PF.app {arr : List HI} (h : Nd arr) (hh : Hpd (gt arr) arr.length) {x : HI} (hx : ∀ y ∈ arr, y.id ≠ x.id) : PF arr (arr ++ [x]) x arr.length (arr.length + 1) := by
  refine ⟨by simp, by omega, app_nd h hx, app_atD h hx, ?_, by rw [app_gt x (by omega), if_pos rfl], by rw [off_none hx]; exact List.perm_append_comm⟩
  rw [List.length_append, List.length_singleton]
  refine Exc.congr (g := fun i => if i = arr.length then x else gt arr i) ⟨fun i h0 hi hin hpn => ?_, fun h0 i hi0 hi hpi => ?_⟩ (by omega) fun i hi => app_gt x hi
  · simp only [if_neg hin, if_neg hpn]
    exact hh i h0 (by omega)
  · unfold par at hpi; omega
set_option maxHeartbeats 4000000 in
theorem push_any (b : Nat) (l : List HI) (id key : Int) (F : Hp) (hs : List Hp) (ho : HeapC b l hs) (hroom : l.length < 8796093022208) : Spec Tryz.prog 163 [.pointer (some ⟨b, 0, none⟩), .int .i64 id, .int .i64 key] F hs fun v hs' => v = .tuple #[] ∧ HeapC b (⟨key, id⟩ :: off id l) hs' := by
  obtain ⟨arr, ⟨A, c, m, ha, hm, rfl, harr, hmap, hnd, hbd⟩, hh, hp⟩ := ho
  have hlp := hp.length_eq
  refine Spec.enter Tryz.func163 rfl Tryz.ntmps163 rfl fun B => ?_
  cases hD : atD arr id with
  | none =>
    have pf := PF.app hnd hh (x := ⟨key, id⟩) (atD_none hD)
    repeat' (first | ((apply WL.rd; (exact rfl); (apply Rn.lookupOkN (h := hm) (D := atD arr); (exact rfl); (exact rfl); (simp); (exact hmap); (exact hD)))) | (first | refine soA ?_ | refine sgA ?_ | refine sxA ?_ | refine sbA ?_ | refine fun (Q : Post) hQ => ?_ | refine fun (nb : Nat) => (?_ : WL _ _ _ _ _ _ _ _ _) | (refine WL.guard rfl rfl rfl (fun h => ?_) (fun h => ?_) <;> (try dsimp only at h))))
    apply WL.ex
    · exact rfl
    (apply WO.append (h := ha) (news := (⟨0, 0⟩ : HI).enc) (m := 1); (exact rfl); (exact rfl); (exact tkA); (exact harr); (exact rfl); (decide); (exact rfl); (apply RowAt.cells; (exact atA)); (exact rfl); (first | omega | (simp; omega) | simp); (first | omega | (simp; omega) | simp); intro A' c' h' hap)
    obtain ⟨g, sp, rfl, rfl, h1, h2, h3⟩ := hap.some (by omega)
    have e1 := Lib.hid (set_flatI HI.enc 2 HI.enc_len (arr ++ [⟨0, 0⟩]) arr.length (by simp) ⟨key, id⟩ sp)
    have rn := Lib.hid (flat_room HI.enc 2 HI.enc_len (arr ++ [⟨0, 0⟩]) arr.length (by simp) sp)
    have hfl : (arr ++ [(⟨0, 0⟩ : HI)]).flatMap HI.enc = arr.flatMap HI.enc ++ (⟨0, 0⟩ : HI).enc := by simp
    have hset : (arr ++ [(⟨0, 0⟩ : HI)]).set arr.length ⟨key, id⟩ = arr ++ [⟨key, id⟩] := by simp
    rw [hfl, hset] at e1
    rw [hfl] at rn
    have harr1 : Arr 249 2 (arr ++ [(⟨key, id⟩ : HI)]).length ((arr ++ [(⟨key, id⟩ : HI)]).flatMap HI.enc) (some ⟨g, 0, none⟩) c' (one g (cells ((arr ++ [(⟨key, id⟩ : HI)]).flatMap HI.enc ++ sp) 249)) :=
      Arr.mk (flat_len _ 2 HI.enc_len _) (by rw [← h1, List.length_append, List.length_append, ← hfl, flat_len _ 2 HI.enc_len, flat_len _ 2 HI.enc_len]; simp) (by simpa using h2) h3
    have hbd1 : (arr ++ [(⟨key, id⟩ : HI)]).length ≤ 8796093022208 := by rw [pf.len]; omega
    generalize arr ++ [(⟨key, id⟩ : HI)] = arr1 at *
    generalize hL0 : arr.flatMap HI.enc ++ (⟨0, 0⟩ : HI).enc ++ sp = L at *
    generalize hn' : arr.length = n at *
    generalize hN' : n + 1 = N at *
    repeat' (first | refine soA ?_ | refine sgA ?_ | refine sxA ?_ | refine sbA ?_ | refine fun (Q : Post) hQ => ?_ | refine fun (nb : Nat) => (?_ : WL _ _ _ _ _ _ _ _ _) | (refine WL.guard rfl rfl rfl (fun h => ?_) (fun h => ?_) <;> (try dsimp only at h)))
    refine dra [(0, [])] [] ?_
    refine drp 19 0 1 ?_
    refine drp 19 1 3 ?_
    refine drp 19 2 7 ?_
    refine drl 19 3 0 15 ?_
    refine drp 19 4 31 ?_
    refine drp 19 5 63 ?_
    refine drp 19 6 127 ?_
    refine drp 19 7 255 ?_
    refine drl 19 8 0 511 ?_
    refine drp 19 9 1023 ?_
    refine drp 19 10 2047 ?_
    refine drp 19 11 4095 ?_
    refine drp 19 12 8191 ?_
    refine drp 19 13 16383 ?_
    refine drp 19 14 32767 (hy := by (exact Rn.indexAddr n rfl rfl rfl pf.lt)) ?_
    refine dr1 15 ?_
    refine drf 19 15 65535 ?_
    (apply WO.storeC (l := L) (vs := (⟨key, id⟩ : HI).enc) (b := g) (o := 0 + n * 2); (exact rfl); (exact rfl); (exact rfl); (exact rfl); (exact rfl); (exact rpA); (exact rn.out))
    refine ⟨piA, ?_⟩
    refine dr1 16 ?_
    refine dre 19 16 131071 ?_
    (apply WO.mapEntry (h := hm); (exact rfl); (exact rfl); (exact tkA); (exact hmap); intro v1 s1' h1' me1)
    refine ⟨piA, ?_⟩
    refine drp 19 17 262143 ?_
    refine dr1 18 ?_
    refine drf 19 18 524287 ?_
    (apply WO.entryStore (h := h1'); (exact rfl); (exact rfl); (exact rfl); (exact tkA); (exact me1); intro h2' mi2)
    refine ⟨piA, ?_⟩
    refine drz ?_
    all_goals
      rw [e1.out]
      have ho1 : HeapO b arr1 [one b (cells [.slice (some ⟨g, 0, none⟩) N c', .map (some m)] 218), one g (cells (arr1.flatMap HI.enc ++ sp) 249), h2'] := ⟨_, c', m, _, h2', by rw [pf.len], harr1, by rw [pf.at']; exact mi2, pf.nd, hbd1⟩
    repeat' (first | ((refine WL.ex rfl (WO.callN Tryz.func216 rfl (by kernel_rfl) rfl (by (exact tsA)) (fun G hG hh => up_any b arr1 n G _ ho1 (pf.len.symm ▸ pf.lt) pf.exc) ?_); rintro v own' ⟨rfl, ar2, n2, ⟨A3, c3, m3, ha3, hm3, rfl, harr3, hmap3, hnd3, hbd3⟩, hp2, hn2, hd2, hg2⟩)) | ((apply WL.rd; (exact rfl); (apply Rn.lookupS (h := hm3) (D := atD ar2); (exact rfl); (exact rfl); (simp); (exact hmap3); (exact look_at hnd3 hn2 (hg2.trans pf.it))))) | ((refine WL.ex rfl (WO.callN Tryz.func217 rfl (by kernel_rfl) rfl (by (exact tsA)) (fun G hG hh => down_any b ar2 n2 G _ ⟨A3, c3, m3, ha3, hm3, rfl, harr3, hmap3, hnd3, hbd3⟩ hn2 hd2) ?_); rintro v own' ⟨rfl, ar4, ho4, hp4, hh4⟩)) | (first | refine soA ?_ | refine sgA ?_ | refine sxA ?_ | refine sbA ?_ | refine fun (Q : Post) hQ => ?_ | refine fun (nb : Nat) => (?_ : WL _ _ _ _ _ _ _ _ _) | (refine WL.guard rfl rfl rfl (fun h => ?_) (fun h => ?_) <;> (try dsimp only at h))))
    all_goals
      (refine seE ?_)
      exact ⟨_, keep_app _ _, rfl, ar4, ho4, hh4, (hp4.trans hp2).trans (pf.perm.trans ((off_perm id hp).cons _))⟩
  | some w =>
    obtain ⟨n, rfl, hn, hid⟩ := atD_some hnd hD
    obtain ⟨g, sp, rfl, rfl, h1, h2, h3⟩ := harr.some (by omega)
    have pf := PF.set hnd hh hn (x := ⟨key, id⟩) hid
    have e1 := Lib.hid (set_flatI HI.enc 2 HI.enc_len arr n hn ⟨key, id⟩ sp)
    have rn := Lib.hid (flat_room HI.enc 2 HI.enc_len arr n hn sp)
    have harr1 : Arr 249 2 (arr.set n (⟨key, id⟩ : HI)).length ((arr.set n (⟨key, id⟩ : HI)).flatMap HI.enc) (some ⟨g, 0, none⟩) c (one g (cells ((arr.set n (⟨key, id⟩ : HI)).flatMap HI.enc ++ sp) 249)) :=
      Arr.mk (flat_len _ 2 HI.enc_len _) (by rw [← h1, List.length_append, List.length_append, flat_len _ 2 HI.enc_len, flat_len _ 2 HI.enc_len]; simp) (by simpa using h2) h3
    have hbd1 : (arr.set n (⟨key, id⟩ : HI)).length ≤ 8796093022208 := by rw [pf.len]; omega
    generalize arr.set n (⟨key, id⟩ : HI) = arr1 at *
    generalize hL0 : arr.flatMap HI.enc ++ sp = L at *
    generalize hN' : arr.length = N at *
    repeat' (first | ((apply WL.rd; (exact rfl); (apply Rn.lookupOkS (h := hm) (D := atD arr); (exact rfl); (exact rfl); (simp); (exact hmap); (exact hD)))) | (first | refine soA ?_ | refine sgA ?_ | refine sxA ?_ | refine sbA ?_ | refine fun (Q : Post) hQ => ?_ | refine fun (nb : Nat) => (?_ : WL _ _ _ _ _ _ _ _ _) | (refine WL.guard rfl rfl rfl (fun h => ?_) (fun h => ?_) <;> (try dsimp only at h))))
    refine dra [(0, [])] [] ?_
    refine drp 19 0 1 ?_
    refine drp 19 1 3 ?_
    refine drp 19 2 7 ?_
    refine drl 19 3 0 15 ?_
    refine drp 19 4 31 ?_
    refine drp 19 5 63 ?_
    refine drp 19 6 127 ?_
    refine drp 19 7 255 ?_
    refine drl 19 8 0 511 ?_
    refine drp 19 9 1023 ?_
    refine drp 19 10 2047 ?_
    refine drp 19 11 4095 ?_
    refine drp 19 12 8191 ?_
    refine drp 19 13 16383 ?_
    refine drp 19 14 32767 (hy := by (exact Rn.indexAddr n rfl rfl rfl pf.lt)) ?_
    refine dr1 15 ?_
    refine drf 19 15 65535 ?_
    (apply WO.storeC (l := L) (vs := (⟨key, id⟩ : HI).enc) (b := g) (o := 0 + n * 2); (exact rfl); (exact rfl); (exact rfl); (exact rfl); (exact rfl); (exact rpA); (exact rn.out))
    refine ⟨piA, ?_⟩
    refine dr1 16 ?_
    refine dre 19 16 131071 ?_
    (apply WO.mapEntry (h := hm); (exact rfl); (exact rfl); (exact tkA); (exact hmap); intro v1 s1' h1' me1)
    refine ⟨piA, ?_⟩
    refine drp 19 17 262143 ?_
    refine dr1 18 ?_
    refine drf 19 18 524287 ?_
    (apply WO.entryStore (h := h1'); (exact rfl); (exact rfl); (exact rfl); (exact tkA); (exact me1); intro h2' mi2)
    refine ⟨piA, ?_⟩
    refine drz ?_
    all_goals
      rw [e1.out]
      have ho1 : HeapO b arr1 [one b (cells [.slice (some ⟨g, 0, none⟩) N c, .map (some m)] 218), one g (cells (arr1.flatMap HI.enc ++ sp) 249), h2'] := ⟨_, c, m, _, h2', by rw [pf.len], harr1, by rw [pf.at']; exact mi2, pf.nd, hbd1⟩
    repeat' (first | ((refine WL.ex rfl (WO.callN Tryz.func216 rfl (by kernel_rfl) rfl (by (exact tsA)) (fun G hG hh => up_any b arr1 n G _ ho1 (pf.len.symm ▸ pf.lt) pf.exc) ?_); rintro v own' ⟨rfl, ar2, n2, ⟨A3, c3, m3, ha3, hm3, rfl, harr3, hmap3, hnd3, hbd3⟩, hp2, hn2, hd2, hg2⟩)) | ((apply WL.rd; (exact rfl); (apply Rn.lookupS (h := hm3) (D := atD ar2); (exact rfl); (exact rfl); (simp); (exact hmap3); (exact look_at hnd3 hn2 (hg2.trans pf.it))))) | ((refine WL.ex rfl (WO.callN Tryz.func217 rfl (by kernel_rfl) rfl (by (exact tsA)) (fun G hG hh => down_any b ar2 n2 G _ ⟨A3, c3, m3, ha3, hm3, rfl, harr3, hmap3, hnd3, hbd3⟩ hn2 hd2) ?_); rintro v own' ⟨rfl, ar4, ho4, hp4, hh4⟩)) | (first | refine soA ?_ | refine sgA ?_ | refine sxA ?_ | refine sbA ?_ | refine fun (Q : Post) hQ => ?_ | refine fun (nb : Nat) => (?_ : WL _ _ _ _ _ _ _ _ _) | (refine WL.guard rfl rfl rfl (fun h => ?_) (fun h => ?_) <;> (try dsimp only at h))))
    all_goals
      (refine seE ?_)
      exact ⟨_, keep_app _ _, rfl, ar4, ho4, hh4, (hp4.trans hp2).trans (pf.perm.trans ((off_perm id hp).cons _))⟩
end Go.Proofs.YtflgnpidelkkpaaGreat
namespace Go.Proofs.YtflgnpidelkkpaaGreat
set_option maxRecDepth 8000
set_option maxHeartbeats 1000000
set_option linter.unusedVariables false
set_option linter.unusedSimpArgs false
attribute [local irreducible] W X WL WA WB WG WO Rn Own one splice Arr Spec WQ WH Qn
theorem Rn.subN {P : Program} {F : Hp} {hs : List Hp} {ty : TypeId} {env : Env} {xt yt : TypeId} {x y : Operand} {N last : Nat} (h : N = last + 1) (hb : N ≤ 8796093022208) (hx : ev env x = some (.int .i64 (N : Nat))) (hy : ev env y = some (.int .i64 1)) : Rn P F hs (.binOp .sub xt x y yt) ty env (.int .i64 (last : Nat)) := by
  have := Rn.sub (P := P) (F := F) (hs := hs) (ty := ty) (xt := xt) (yt := yt) hx hy (by omega)
  rwa [show (N : Int) - 1 = (last : Int) by omega] at this
structure RF (arr arr2 : List HI) (id : Int) (n last : Nat) : Prop where
  len : arr2.length = last
  nd : Nd arr2
  at' : atD arr2 = upd (atD (swL arr n last)) id none
  exc : n < last → Exc (gt arr2) arr2.length n
  hp : ¬ n < last → Hpd (gt arr2) arr2.length
  perm : arr2.Perm (off id arr)
theorem RF.mk' {arr : List HI} (h : Nd arr) (hh : Hpd (gt arr) arr.length) {n last : Nat} (hl : arr.length = last + 1) (hn : n < arr.length) : RF arr ((swL arr n last).take last) (gt arr n).id n last := by
  have hll : last < arr.length := by omega
  have hl3 := swL_len arr n last
  have hnd3 := h.perm (swL_perm hn hll).symm
  have gl : gt (swL arr n last) last = gt arr n := by rw [swL_get hn hll last hll]; unfold sw; rw [if_pos rfl]
  have gi : ∀ i, i < last → gt ((swL arr n last).take last) i = if i = n then gt arr last else gt arr i := fun i hi => by
    rw [take_gt hi (by omega), swL_get hn hll i (by omega)]; unfold sw; rw [if_neg (by omega)]
  have hlen : ((swL arr n last).take last).length = last := by rw [List.length_take]; omega
  refine ⟨hlen, take_nd hnd3 _, ?_, fun hnl => ?_, fun hnl => ?_, ?_⟩
  · rw [take_atD hnd3 (by omega), gl]
  · rw [hlen]
    exact (Exc.of_heap (hh.less (by omega)) (gt arr last)).congr hnl gi
  · rw [hlen]
    refine (hh.less (m := last) (by omega)).congr fun i hi => ?_
    rw [gi i hi, if_neg (by omega)]
  · rw [take_off hnd3 (by omega), gl]
    exact off_perm _ (swL_perm hn hll)
set_option maxHeartbeats 4000000 in
theorem rem_any (b : Nat) (l : List HI) (id : Int) (F : Hp) (hs : List Hp) (ho : HeapC b l hs) : Spec Tryz.prog 214 [.pointer (some ⟨b, 0, none⟩), .int .i64 id] F hs fun v hs' => v = .bool (l.any fun x => x.id == id) ∧ HeapC b (off id l) hs' := by
  have ho0 := ho
  obtain ⟨arr, ⟨A, c, m, ha, hm, rfl, harr, hmap, hnd, hbd⟩, hh, hp⟩ := ho
  refine Spec.enter Tryz.func214 rfl Tryz.ntmps214 rfl fun B => ?_
  cases hD : atD arr id with
  | none =>
    have hx := atD_none hD
    have hl : ∀ x ∈ l, x.id ≠ id := fun x hx' => hx x (hp.mem_iff.2 hx')
    repeat' (first | ((apply WL.rd; (exact rfl); (apply Rn.lookupOkN (h := hm) (D := atD arr); (exact rfl); (exact rfl); (simp); (exact hmap); (exact hD)))) | (first | refine soA ?_ | refine sgA ?_ | refine sxA ?_ | refine sbA ?_ | refine fun (Q : Post) hQ => ?_ | refine fun (nb : Nat) => (?_ : WL _ _ _ _ _ _ _ _ _) | (refine WL.guard rfl rfl rfl (fun h => ?_) (fun h => ?_) <;> (try dsimp only at h))))
    (refine seE ?_)
    refine ⟨_, keep_self _, ?_, by rw [off_none hl]; exact ho0⟩
    have : (l.any fun x => x.id == id) = false := by rw [List.any_eq_false]; intro x hx; simpa using hl x hx
    rw [this]
  | some w =>
    obtain ⟨n, rfl, hn, hid⟩ := atD_some hnd hD
    obtain ⟨last, hN⟩ : ∃ last, arr.length = last + 1 := ⟨arr.length - 1, by omega⟩
    have rf := RF.mk' hnd hh hN hn
    rw [hid] at rf
    have hany : (l.any fun x => x.id == id) = true := by
      rw [List.any_eq_true]
      exact ⟨gt arr n, hp.mem_iff.1 (by rw [gt_eq hn]; exact List.getElem_mem hn), by simpa using hid⟩
    repeat' (first | ((apply WL.rd; (exact rfl); (apply Rn.lookupOkS (h := hm) (D := atD arr); (exact rfl); (exact rfl); (simp); (exact hmap); (exact hD)))) | ((apply WL.rd; (exact rfl); (exact Rn.subN hN hbd rfl rfl))) | ((refine WL.ex rfl (WO.callN Tryz.func253 rfl (by kernel_rfl) rfl (by (exact tsA)) (fun G hG hh => swap_any b arr n last G _ ⟨A, c, m, ha, hm, rfl, harr, hmap, hnd, hbd⟩ hn (by omega)) ?_); rintro v own' ⟨rfl, A3, c3, m3, ha3, hm3, rfl, harr3, hmap3, hnd3, hbd3⟩)) | ((apply WL.rd; (exact rfl); (exact Rn.sliceTo last rfl rfl rfl (by have := harr3.le; have := swL_len arr n last; omega)))) | (first | refine soA ?_ | refine sgA ?_ | refine sxA ?_ | refine sbA ?_ | refine fun (Q : Post) hQ => ?_ | refine fun (nb : Nat) => (?_ : WL _ _ _ _ _ _ _ _ _) | (refine WL.guard rfl rfl rfl (fun h => ?_) (fun h => ?_) <;> (try dsimp only at h))))
    apply WL.ex0
    (apply WO.delete (t := 177) (h := hm3); (exact rfl); (exact rfl); (exact rfl); (exact tkA); (exact hmap3); intro h4' mi4)
    have hl3 := swL_len arr n last
    obtain ⟨g, sp, rfl, rfl, h1, h2, h3⟩ := harr3.some (by omega)
    have hlast : last < (swL arr n last).length := by omega
    have es : (swL arr n last).flatMap HI.enc ++ sp = ((swL arr n last).take last).flatMap HI.enc ++ ((gt (swL arr n last) last).enc ++ sp) := by
      have e := split_at hlast
      rw [List.drop_of_length_le (by omega)] at e
      conv => lhs; rw [e]
      rw [List.flatMap_append, List.append_assoc]
      simp
    have harr2 : Arr 249 2 ((swL arr n last).take last).length (((swL arr n last).take last).flatMap HI.enc) (some ⟨g, 0, none⟩) c3 (one g (cells ((swL arr n last).flatMap HI.enc ++ sp) 249)) := by
      rw [es]
      exact Arr.mk (flat_len _ 2 HI.enc_len _) (by rw [← es]; exact h1) (by rw [rf.len]; omega) h3
    have ho2 : HeapO b ((swL arr n last).take last) [one b (cells [.slice (some ⟨g, 0, none⟩) last c3, .map (some m3)] 218), one g (cells ((swL arr n last).flatMap HI.enc ++ sp) 249), h4'] := ⟨_, c3, m3, _, h4', by rw [rf.len], harr2, by rw [rf.at']; exact mi4, rf.nd, by rw [rf.len]; omega⟩
    have gn : n < last → ((swL arr n last).flatMap HI.enc ++ sp)[0 + n * 2 + 1]? = some (.int .i64 (gt ((swL arr n last).take last) n).id) := fun hnl => by
      rw [es]
      exact get_flat' HI.enc 2 HI.enc_len _ n _ _ (gt_get (by rw [rf.len]; exact hnl)) 1 (.int .i64 (gt ((swL arr n last).take last) n).id) rfl
    clear es harr2
    generalize (swL arr n last).take last = arr2 at *
    generalize (swL arr n last).flatMap HI.enc ++ sp = L at *
    repeat' (first | refine soA ?_ | refine sgA ?_ | refine sxA ?_ | refine sbA ?_ | refine fun (Q : Post) hQ => ?_ | refine fun (nb : Nat) => (?_ : WL _ _ _ _ _ _ _ _ _) | (refine WL.guard rfl rfl rfl (fun h => ?_) (fun h => ?_) <;> (try dsimp only at h)))
    refine W.cond rfl (fun h => ?_) (fun h => ?_) <;> (try simp only [beq_iff_eq, bne_iff_ne, decide_eq_true_eq, decide_eq_false_iff_not, beq_eq_false_iff_ne, bne_eq_false_iff_eq, Bool.not_true, Bool.not_false, ne_eq, Int.not_lt, Int.not_le, Bool.not_eq_true', Bool.not_eq_false', Bool.not_eq_eq_eq_not] at h)
    · have hnl : n < last := by have : ((n : Nat) : Int) < (last : Nat) := h; omega
      have gn' := gn hnl
      repeat' (first | ((apply WL.rd; (exact rfl); (exact Rn.indexAddr n rfl rfl rfl hnl))) | ((apply WL.rd; (exact rfl); (apply Rn.load; (exact rfl); apply CellAt.mk; (exact atA); (exact gn')))) | ((refine WL.ex rfl (WO.callN Tryz.func216 rfl (by kernel_rfl) rfl (by (exact tsA)) (fun G hG hh => up_any b arr2 n G _ ho2 (rf.len.symm ▸ hnl) (rf.exc hnl)) ?_); rintro v own' ⟨rfl, ar4, n4, ⟨A5, c5, m5, ha5, hm5, rfl, harr5, hmap5, hnd5, hbd5⟩, hp4, hn4, hd4, hg4⟩)) | ((apply WL.rd; (exact rfl); (apply Rn.lookupS (h := hm5) (D := atD ar4); (exact rfl); (exact rfl); (simp); (exact hmap5); (exact look_at hnd5 hn4 hg4)))) | ((refine WL.ex rfl (WO.callN Tryz.func217 rfl (by kernel_rfl) rfl (by (exact tsA)) (fun G hG hh => down_any b ar4 n4 G _ ⟨A5, c5, m5, ha5, hm5, rfl, harr5, hmap5, hnd5, hbd5⟩ hn4 hd4) ?_); rintro v own' ⟨rfl, ar6, ho6, hp6, hh6⟩)) | (first | refine soA ?_ | refine sgA ?_ | refine sxA ?_ | refine sbA ?_ | refine fun (Q : Post) hQ => ?_ | refine fun (nb : Nat) => (?_ : WL _ _ _ _ _ _ _ _ _) | (refine WL.guard rfl rfl rfl (fun h => ?_) (fun h => ?_) <;> (try dsimp only at h))))
      (refine seE ?_)
      exact ⟨_, keep_app _ _, by rw [hany], ar6, ho6, hh6, ((hp6.trans hp4).trans rf.perm).trans (off_perm id hp)⟩
    · have hnl : ¬ n < last := by have : (last : Int) ≤ ((n : Nat) : Int) := h; omega
      repeat' (first | refine soA ?_ | refine sgA ?_ | refine sxA ?_ | refine sbA ?_ | refine fun (Q : Post) hQ => ?_ | refine fun (nb : Nat) => (?_ : WL _ _ _ _ _ _ _ _ _) | (refine WL.guard rfl rfl rfl (fun h => ?_) (fun h => ?_) <;> (try dsimp only at h)))
      (refine seE ?_)
      refine ⟨[one b (cells [.slice (some ⟨g, 0, none⟩) last c3, .map (some m3)] 218), one g (cells L 249), h4'], (by (exact keA)), by rw [hany], arr2, ho2, rf.hp hnl, rf.perm.trans (off_perm id hp)⟩
end Go.Proofs.YtflgnpidelkkpaaGreat
namespace Go.Proofs.YtflgnpidelkkpaaGreat
set_option maxRecDepth 8000
set_option maxHeartbeats 1000000
set_option linter.unusedVariables false
set_option linter.unusedSimpArgs false
def toHJ (x : JobV) : HI := ⟨x.deadline, x.task⟩
def offJ (id : Int) (l : List JobV) : List JobV := l.filter fun x => x.task != id
def jobD (l : List JobV) : Int → Option Value := fun k => (l.find? fun x => x.task == k).map fun x => .agg x.enc.toArray
theorem uniqJ {α β : Type} {f : α → β} : ∀ {l : List α}, (l.map f).Nodup → ∀ {a b : α}, a ∈ l → b ∈ l → f a = f b → a = b
  | [], _, _, _, h, _, _ => nomatch h
  | y :: t, h, a, b, ha, hb, e => by
    obtain ⟨h1, h2⟩ := List.nodup_cons.1 h
    rcases List.mem_cons.1 ha with rfl | ia <;> rcases List.mem_cons.1 hb with rfl | ib
    · rfl
    · exact absurd (List.mem_map.2 ⟨b, ib, e.symm⟩) h1
    · exact absurd (List.mem_map.2 ⟨a, ia, e⟩) h1
    · exact uniqJ h2 ia ib e
theorem threeH {b : Nat} {l : List HI} {hs : List Hp} (h : HeapC b l hs) : ∃ p q r, hs = [p, q, r] := by
  obtain ⟨arr, ⟨A, c, m, ha, hm, e, _⟩, _⟩ := h
  exact ⟨_, _, _, e⟩
theorem offJ_map (id : Int) (l : List JobV) : off id (l.map toHJ) = (offJ id l).map toHJ := by
  unfold off offJ
  rw [List.filter_map]; rfl
theorem find_offJ (id k : Int) (l : List JobV) : (offJ id l).find? (fun x => x.task == k) = if k = id then none else l.find? (fun x => x.task == k) := by
  unfold offJ
  rw [List.find?_filter]
  by_cases h : k = id
  · subst h
    rw [if_pos rfl, List.find?_eq_none]
    intro x _; simp
  · rw [if_neg h]
    congr 1; funext x
    by_cases hx : x.task = k
    · simp [hx, h]
    · simp [hx]
theorem jobD_off (id : Int) (l : List JobV) : jobD (offJ id l) = upd (jobD l) id none := by
  funext k
  unfold jobD upd
  rw [find_offJ]
  split <;> rfl
theorem jobD_put (j : JobV) (l : List JobV) : jobD (j :: offJ j.task l) = upd (jobD l) j.task (some (.agg j.enc.toArray)) := by
  funext k
  unfold jobD upd
  rw [List.find?_cons, find_offJ]
  by_cases h : k = j.task
  · subst h; simp
  · have : (j.task == k) = false := beq_eq_false_iff_ne.2 fun e => h e.symm
    simp [h, this]
theorem jobD_at {l : List JobV} (h : (l.map (·.task)).Nodup) {x : JobV} (hx : x ∈ l) : l.find? (fun y => y.task == x.task) = some x := by
  cases hf : l.find? (fun y => y.task == x.task) with
  | none => exact absurd (beq_self_eq_true x.task) (List.find?_eq_none.1 hf x hx)
  | some w =>
    have hw : w.task = x.task := by simpa using List.find?_some hf
    rw [uniqJ h (List.mem_of_find?_eq_some hf) hx hw]
theorem jobD_perm {l l' : List JobV} (h : (l.map (·.task)).Nodup) (p : l.Perm l') : jobD l = jobD l' := by
  have h' : (l'.map (·.task)).Nodup := (p.map _).nodup_iff.1 h
  funext k
  unfold jobD
  congr 1
  cases hf : l.find? (fun y => y.task == k) with
  | none =>
    refine (List.find?_eq_none.2 fun x hx => ?_).symm
    exact List.find?_eq_none.1 hf x (p.mem_iff.2 hx)
  | some x =>
    have hx := List.mem_of_find?_eq_some hf
    have hk : x.task = k := by simpa using List.find?_some hf
    rw [← hk]
    exact (jobD_at h' (p.mem_iff.1 hx)).symm
def RdyC (b : Nat) (l : List JobV) (hs : List Hp) : Prop := ∃ hb m hm p q r, hs = [one b (cells [.pointer (some ⟨hb, 0, none⟩), .map (some m)] 174), hm, p, q, r] ∧ HeapC hb (l.map toHJ) [p, q, r] ∧ MapI (jobD l) m hm
theorem RdyC.nd {b : Nat} {l : List JobV} {hs : List Hp} (h : RdyC b l hs) : (l.map (·.task)).Nodup := by
  obtain ⟨hb, m, hm, p, q, r, _, h, _⟩ := h
  have := h.nd
  unfold Nd at this
  rw [List.map_map] at this
  exact this
theorem RdyC.perm {b : Nat} {l l' : List JobV} {hs : List Hp} (h : RdyC b l hs) (p : l.Perm l') : RdyC b l' hs := by
  have hnd := h.nd
  obtain ⟨hb, m, hm, p1, q, r, e, h1, h2⟩ := h
  exact ⟨hb, m, hm, p1, q, r, e, h1.perm (p.map _), jobD_perm hnd p ▸ h2⟩
def JobZ : JobV := ⟨0, 0, 0, 0, 0, false⟩
theorem keep_tail {α : Type} (x : α) : ∀ (l : List α), Keep (x :: l) l
  | [] => .nil
  | y :: t => .cons (.there .here) (keep_tail x t)
attribute [local irreducible] W X WL WA WB WG WO Rn Own one splice Arr Spec WQ WH Qn
theorem rynew_any (F : Hp) : Spec Tryz.prog 73 [] F [] fun v hs => ∃ b, v = .pointer (some ⟨b, 0, none⟩) ∧ RdyC b [] hs := by
  refine Spec.enter Tryz.func73 rfl Tryz.ntmps73 rfl fun B => ?_
  repeat' (first | ((refine WL.ex rfl (WO.callA Tryz.func123 rfl (by kernel_rfl) rfl (fun G hG => new_any G) ?_); rintro v own' ⟨b, rfl, h1⟩)) | ((refine WL.ex rfl (WO.makeMap ?_); intro m hm hmi)) | (first | refine soA ?_ | refine sgA ?_ | refine sxA ?_ | refine sbA ?_ | refine fun (Q : Post) hQ => ?_ | refine fun (nb : Nat) => (?_ : WL _ _ _ _ _ _ _ _ _) | (refine WL.guard rfl rfl rfl (fun h => ?_) (fun h => ?_) <;> (try dsimp only at h))))
  obtain ⟨p, q, r, rfl⟩ := threeH h1
  (refine seE ?_)
  exact ⟨[one nb (cells [.pointer (some ⟨b, 0, none⟩), .map (some m)] 174), hm, p, q, r], (by (exact keA)), nb, rfl, b, m, hm, p, q, r, rfl, h1, hmi⟩
set_option maxHeartbeats 4000000 in
theorem ryput_any (b : Nat) (l : List JobV) (j : JobV) (hl : l.length < 8796093022208) (F : Hp) (hs : List Hp) (ho : RdyC b l hs) : Spec Tryz.prog 101 [.pointer (some ⟨b, 0, none⟩), .agg j.enc.toArray] F hs fun v hs' => v = .tuple #[] ∧ RdyC b (j :: offJ j.task l) hs' := by
  obtain ⟨hb, m, hm, p, q, r, rfl, hc, hmi⟩ := ho
  refine Spec.enter Tryz.func101 rfl Tryz.ntmps101 rfl fun B => ?_
  repeat' (first | refine soA ?_ | refine sgA ?_ | refine sxA ?_ | refine sbA ?_ | refine fun (Q : Post) hQ => ?_ | refine fun (nb : Nat) => (?_ : WL _ _ _ _ _ _ _ _ _) | (refine WL.guard rfl rfl rfl (fun h => ?_) (fun h => ?_) <;> (try dsimp only at h)))
  refine dra [(0, []), (3, [])] [] ?_
  refine drp 9 0 1 ?_
  refine drp 9 1 3 ?_
  refine drp 9 2 7 ?_
  refine drl 9 3 0 15 ?_
  refine drp 9 4 31 ?_
  refine drl 9 5 1 63 ?_
  refine drp 9 6 127 ?_
  refine drl 9 7 1 255 ?_
  refine dr1 8 ?_
  refine dre 9 8 511 ?_
  (refine WO.callN Tryz.func163 rfl (by kernel_rfl) rfl (own := [p, q, r]) (by (exact tsA)) (fun G hG hh => push_any hb _ j.task j.deadline G _ hc (by rw [List.length_map]; exact hl)) ?_; rintro v own' ⟨rfl, hc1⟩; obtain ⟨p1, q1, r1, rfl⟩ := threeH hc1)
  refine ⟨piA, ?_⟩
  refine drz ?_
  repeat' (first | refine soA ?_ | refine sgA ?_ | refine sxA ?_ | refine sbA ?_ | refine fun (Q : Post) hQ => ?_ | refine fun (nb : Nat) => (?_ : WL _ _ _ _ _ _ _ _ _) | (refine WL.guard rfl rfl rfl (fun h => ?_) (fun h => ?_) <;> (try dsimp only at h)))
  refine dra [(0, []), (3, [])] [] ?_
  refine drp 8 0 1 ?_
  refine drp 8 1 3 ?_
  refine drp 8 2 7 ?_
  refine drl 8 3 0 15 ?_
  refine drp 8 4 31 ?_
  refine drl 8 5 1 63 ?_
  refine drl 8 6 1 127 ?_
  refine dr1 7 ?_
  refine drf 8 7 255 ?_
  (apply WO.mapUpdate (h := hm); (exact rfl); (exact rfl); (exact rfl); (exact tkA); (exact hmi); intro hm' hmi')
  refine ⟨piA, ?_⟩
  refine drz ?_
  repeat' (first | refine soA ?_ | refine sgA ?_ | refine sxA ?_ | refine sbA ?_ | refine fun (Q : Post) hQ => ?_ | refine fun (nb : Nat) => (?_ : WL _ _ _ _ _ _ _ _ _) | (refine WL.guard rfl rfl rfl (fun h => ?_) (fun h => ?_) <;> (try dsimp only at h)))
  (refine seE ?_)
  refine ⟨[one b (cells [.pointer (some ⟨hb, 0, none⟩), .map (some m)] 174), hm', p1, q1, r1], (by (exact keA)), rfl, hb, m, hm', p1, q1, r1, rfl, ?_, ?_⟩
  · rw [List.map_cons, ← offJ_map]; exact hc1
  · rw [jobD_put]; exact hmi'
theorem rydrop_any (b : Nat) (l : List JobV) (id : Int) (F : Hp) (hs : List Hp) (ho : RdyC b l hs) : Spec Tryz.prog 269 [.pointer (some ⟨b, 0, none⟩), .int .i64 id] F hs fun v hs' => v = .bool (l.any fun x => x.task == id) ∧ RdyC b (offJ id l) hs' := by
  obtain ⟨hb, m, hm, p, q, r, rfl, hc, hmi⟩ := ho
  refine Spec.enter Tryz.func269 rfl Tryz.ntmps269 rfl fun B => ?_
  repeat' (first | ((apply WL.ex0; (apply WO.delete (t := 172) (h := hm); (exact rfl); (exact rfl); (exact rfl); (exact tkA); (exact hmi); intro hm' hmi'))) | ((refine WL.ex rfl (WO.callN Tryz.func214 rfl (by kernel_rfl) rfl (own := [p, q, r]) (by (exact tsA)) (fun G hG hh => rem_any hb _ id G _ hc) ?_); rintro v own' ⟨rfl, hc1⟩; obtain ⟨p1, q1, r1, rfl⟩ := threeH hc1)) | (first | refine soA ?_ | refine sgA ?_ | refine sxA ?_ | refine sbA ?_ | refine fun (Q : Post) hQ => ?_ | refine fun (nb : Nat) => (?_ : WL _ _ _ _ _ _ _ _ _) | (refine WL.guard rfl rfl rfl (fun h => ?_) (fun h => ?_) <;> (try dsimp only at h))))
  (refine seE ?_)
  refine ⟨[one b (cells [.pointer (some ⟨hb, 0, none⟩), .map (some m)] 174), hm', p1, q1, r1], (by (exact keA)), (by rw [List.any_map]; rfl), hb, m, hm', p1, q1, r1, rfl, offJ_map id l ▸ hc1, ?_⟩
  rw [jobD_off]; exact hmi'
def getJ (l : List JobV) (id : Int) : Value := match l.find? (fun x => x.task == id) with
  | none => .tuple #[.agg JobZ.enc.toArray, .bool false]
  | some x => .tuple #[.agg x.enc.toArray, .bool true]
theorem ryget_any (b : Nat) (l : List JobV) (id : Int) (F : Hp) (hs : List Hp) (ho : RdyC b l hs) : Spec Tryz.prog 150 [.pointer (some ⟨b, 0, none⟩), .int .i64 id] F hs fun v hs' => v = getJ l id ∧ hs' = hs := by
  obtain ⟨hb, m, hm, p, q, r, rfl, hc, hmi⟩ := ho
  refine Spec.enter Tryz.func150 rfl Tryz.ntmps150 rfl fun B => ?_
  cases hf : l.find? (fun x => x.task == id) with
  | none =>
    have hv : jobD l id = none := by unfold jobD; rw [hf]; rfl
    repeat' (first | ((apply WL.rd; (exact rfl); (exact Rn.lookupOkN (t := 172) (h := hm) rfl rfl (by simp) hmi hv))) | (first | refine soA ?_ | refine sgA ?_ | refine sxA ?_ | refine sbA ?_ | refine fun (Q : Post) hQ => ?_ | refine fun (nb : Nat) => (?_ : WL _ _ _ _ _ _ _ _ _) | (refine WL.guard rfl rfl rfl (fun h => ?_) (fun h => ?_) <;> (try dsimp only at h))))
    (refine seE ?_)
    exact ⟨[one b (cells [.pointer (some ⟨hb, 0, none⟩), .map (some m)] 174), hm, p, q, r], (by (exact keA)), by unfold getJ; rw [hf]; rfl, rfl⟩
  | some x =>
    have hv : jobD l id = some (.agg x.enc.toArray) := by unfold jobD; rw [hf]; rfl
    repeat' (first | ((apply WL.rd; (exact rfl); (exact Rn.lookupOkS (t := 172) (h := hm) rfl rfl (by simp) hmi hv))) | (first | refine soA ?_ | refine sgA ?_ | refine sxA ?_ | refine sbA ?_ | refine fun (Q : Post) hQ => ?_ | refine fun (nb : Nat) => (?_ : WL _ _ _ _ _ _ _ _ _) | (refine WL.guard rfl rfl rfl (fun h => ?_) (fun h => ?_) <;> (try dsimp only at h))))
    (refine seE ?_)
    exact ⟨[one b (cells [.pointer (some ⟨hb, 0, none⟩), .map (some m)] 174), hm, p, q, r], (by (exact keA)), by unfold getJ; rw [hf]; rfl, rfl⟩
end Go.Proofs.YtflgnpidelkkpaaGreat
