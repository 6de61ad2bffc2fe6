/- A chair is the document's: what 'same' answers. -/
import Derived.Test.YtdlfjbllmmkmkaaRDo
import Derived.Test.YtdlfjbllmmkmkaaDealSame
import Derived.Test.YtdlfjbllmmkmkaaOpen
import Derived.Test.YtdlfjbllmmkmkaaLogOf
import Derived.Test.YtdlfjbllmmkmkaaDealOf
namespace Go.Proofs.Ytdlfjbllmmkmkaa.Chair
open Go.RowKit Flat ChairSpec News Go.Proofs.YtdlfjbllmmkmkaaW.PrintLast
set_option linter.unusedSimpArgs false
set_option linter.unusedVariables false
set_option maxRecDepth 100000
/-! ### operations behind a guard -/
theorem wpList_on {P : Program} {ops : Array Oper} {rest : List Oper} {o : Oper} {a : Act} {w : World} {Q : Exit → Act → World → Prop} {v : Value} (hw : Region.wanted o (yielded ops a.tmps) = true) (hrun : (execOp a.eval o).run P w = .ok (.value v) w) (h : wpList P ops Q rest (a.put o.dst v) w) : wpList P ops Q (o :: rest) a w := by
  unfold wpList
  rw [if_pos hw]
  refine .inl ?_
  unfold Oper.wp
  rw [hrun]
  exact h
theorem ne_run {P : Program} {oi : Oper} {a : Act} {w : World} {t t2 : TypeId} {x y : Operand} {xs ys : Array Value} {v : Value} (ho : oi.op = .binOp .neq t x y t2) (hx : a.eval x = .agg xs) (hy : a.eval y = .agg ys) (hm : P.eqGuardType P.depth t = false) (h : (binOp .neq t (.agg xs) (.agg ys)).run P w = .ok v w) : (execOp a.eval oi).run P w = .ok (.value v) w := by
  unfold execOp
  simp only [ho, hx, hy, run_eqGuard_agg w .neq t x y xs ys hm, h, Sem.run_bind, Sem.run_pure, Result.andThen_ok]
set_option maxHeartbeats 2000000 in
theorem bools_same9 (b0 b1 b2 b3 b4 b5 b6 b7 : Bool) (w : World) : (Op.equalIn 9999 37 (.agg #[.bool b0, .bool b1, .bool b2, .bool b3, .bool b4, .bool b5, .bool b6, .bool b7]) (.agg #[.bool b0, .bool b1, .bool b2, .bool b3, .bool b4, .bool b5, .bool b6, .bool b7])).run Try.prog w = .ok true w := by
  obtain ⟨i0, hi, _⟩ := info_parts infoB
  have e := run_equalIn_array (P := Try.prog) w 9998 #[.bool b0, .bool b1, .bool b2, .bool b3, .bool b4, .bool b5, .bool b6, .bool b7] #[.bool b0, .bool b1, .bool b2, .bool b3, .bool b4, .bool b5, .bool b6, .bool b7] Try.underlying37 hi
  refine e.trans ?_
  have hc : Try.prog.cellsOf 4 = 1 := by kernel_rfl
  rw [hc, show List.range 8 = [0, 1, 2, 3, 4, 5, 6, 7] from rfl]
  simp [Op.eqItems, go_sem]
set_option maxHeartbeats 2000000 in
theorem ints_same9 (b0 b1 b2 b3 b4 b5 b6 b7 : Int) (w : World) : (Op.equalIn 9999 38 (.agg #[.int .i64 b0, .int .i64 b1, .int .i64 b2, .int .i64 b3, .int .i64 b4, .int .i64 b5, .int .i64 b6, .int .i64 b7]) (.agg #[.int .i64 b0, .int .i64 b1, .int .i64 b2, .int .i64 b3, .int .i64 b4, .int .i64 b5, .int .i64 b6, .int .i64 b7])).run Try.prog w = .ok true w := by
  obtain ⟨i0, hi, _⟩ := info_parts infoI
  have e := run_equalIn_array (P := Try.prog) w 9998 #[.int .i64 b0, .int .i64 b1, .int .i64 b2, .int .i64 b3, .int .i64 b4, .int .i64 b5, .int .i64 b6, .int .i64 b7] #[.int .i64 b0, .int .i64 b1, .int .i64 b2, .int .i64 b3, .int .i64 b4, .int .i64 b5, .int .i64 b6, .int .i64 b7] Try.underlying38 hi
  refine e.trans ?_
  have hc : Try.prog.cellsOf 3 = 1 := by kernel_rfl
  rw [hc, show List.range 8 = [0, 1, 2, 3, 4, 5, 6, 7] from rfl]
  simp [Op.eqItems, go_sem]
set_option maxHeartbeats 4000000 in
theorem rta_ne (t : Ta) (w : World) : (binOp .neq 72 (.agg (tc t).toArray) (.agg (tc t).toArray)).run Try.prog w = .ok (.bool false) w := by
  have hb := fun w => bools_same9 (t.who 0) (t.who 1) (t.who 2) (t.who 3) (t.who 4) (t.who 5) (t.who 6) (t.who 7) w
  have hv := fun w => ints_same9 (t.votes 0) (t.votes 1) (t.votes 2) (t.votes 3) (t.votes 4) (t.votes 5) (t.votes 6) (t.votes 7) w
  have he := fun w => ints_same9 (t.epochs 0) (t.epochs 1) (t.epochs 2) (t.epochs 3) (t.epochs 4) (t.epochs 5) (t.epochs 6) (t.epochs 7) w
  have e : (tc t).toArray = #[.bool (t.who 0), .bool (t.who 1), .bool (t.who 2), .bool (t.who 3), .bool (t.who 4), .bool (t.who 5), .bool (t.who 6), .bool (t.who 7), .int .i64 (t.votes 0), .int .i64 (t.votes 1), .int .i64 (t.votes 2), .int .i64 (t.votes 3), .int .i64 (t.votes 4), .int .i64 (t.votes 5), .int .i64 (t.votes 6), .int .i64 (t.votes 7), .int .i64 (t.epochs 0), .int .i64 (t.epochs 1), .int .i64 (t.epochs 2), .int .i64 (t.epochs 3), .int .i64 (t.epochs 4), .int .i64 (t.epochs 5), .int .i64 (t.epochs 6), .int .i64 (t.epochs 7)] := rfl
  rw [e]
  clear e
  simp [go_sem, hb, hv, he]
theorem rte_ne (t : Te) (w : World) : (binOp .neq 73 (.agg (tec t).toArray) (.agg (tec t).toArray)).run Try.prog w = .ok (.bool false) w := by
  have e : (tec t).toArray = #[.int .i64 t.dl, .int .i64 t.span, .int .i64 t.used, .int .i64 t.cap] := rfl
  rw [e]
  clear e
  simp [go_sem]
theorem mode72 : (Try.prog).eqGuardType (Try.prog).depth 72 = false := by kernel_rfl
theorem mode73 : (Try.prog).eqGuardType (Try.prog).depth 73 = false := by kernel_rfl
/-! ### what is open -/
theorem openN_sorted (f : Int → Option De) : (openN f).Pairwise (· < ·) := by
  unfold openN txs
  exact (List.pairwise_lt_range.filter _).filter _
theorem openN_lt (f : Int → Option De) {j k : Nat} (hj : j < k) (hk : k < (openN f).length) : (openN f)[j]'(by omega) < (openN f)[k] := List.pairwise_iff_getElem.1 (openN_sorted f) j k (by omega) hk hj
theorem openN_mem {f : Int → Option De} {t : Nat} (h : t ∈ openN f) : t < 1000 ∧ ∃ d, f (t : Int) = some d ∧ d.out = 0 := by
  unfold openN txs at h
  rw [List.mem_filter, List.mem_filter, List.mem_range] at h
  obtain ⟨⟨h1, h2⟩, h3⟩ := h
  obtain ⟨d, hd⟩ := Option.isSome_iff_exists.1 h2
  refine ⟨h1, d, hd, ?_⟩
  unfold shutN at h3
  simpa [hd] using h3
theorem openN_len (f : Int → Option De) : (openN f).length = overAll (fun d => decide (d.out = 0)) f := by
  unfold openN txs overAll
  rw [List.filter_filter, ← List.countP_eq_length_filter]
  refine List.countP_congr fun i _ => ?_
  unfold shutN
  cases hf : f (i : Int) with
  | none => simp
  | some d => simp
theorem look_at : ∀ {D : Ds} {k : Nat} {tx : Int} {d : De}, (D.map (·.1)).Nodup → D[k]? = some (tx, d) → lookR D tx = some d
  | [], _, _, _, _, h => by simp at h
  | x :: D, 0, tx, d, hn, h => by
    have hx : x = (tx, d) := by simpa using h
    subst hx
    simp [lookR]
  | x :: D, k + 1, tx, d, hn, h => by
    obtain ⟨hx, hn'⟩ := List.nodup_cons.1 (show (x.1 :: D.map (·.1)).Nodup from hn)
    have hD : D[k]? = some (tx, d) := by simpa using h
    have hxt : (x.1 == tx) = false := beq_eq_false_iff_ne.2 fun e2 => hx (List.mem_map.2 ⟨(tx, d), List.mem_of_getElem? hD, e2.symm⟩)
    have := look_at hn' hD
    simpa [lookR, List.find?_cons, hxt] using this
def cntO (D : Ds) (k : Nat) : Nat := (D.take k).countP fun x => decide (x.2.out = 0)
theorem cntO_step (D : Ds) (k : Nat) (hk : k < D.length) : cntO D (k + 1) = cntO D k + (if D[k].2.out = 0 then 1 else 0) := by
  rw [cntO, List.take_succ_eq_append_getElem hk, List.countP_append, List.countP_singleton, cntO]
  simp
theorem cntO_le (D : Ds) (k : Nat) : cntO D k ≤ D.length := Nat.le_trans List.countP_le_length (by simp; omega)
theorem rec_cells {w : World} {b off k : Nat} {L : List Re} (h : w.rangeAt b off (rcl L)) (hk : k < L.length) : w.rangeAt b (off + k * 8) (rec1 L[k]) := flat_split rec1 8 (fun _ => rfl) L off h k hk
set_option maxHeartbeats 16000000 in
theorem same_any (g bm c : Nat) (lv : Value) (s : Ch) (dv lm : Value) (D : Ds) (w : World) (hC : ChairAt w g bm lv c s) (hd : IsDeals w dv D) (hl : IsLog w lm s.log) (hag : Agree D s.deals) (hlen : D.length ≤ 1000) (hlen2 : s.log.length ≤ 1000) :
    Calls Try.prog 16 #[.pointer (some ⟨g, 0, none⟩), .agg #[dv, lm]] w fun e w' => e = .returned (.bool true) ∧ Below w.heap.size w w' := by
  have HC := Lib.hid hC
  have HD := Lib.hid hd
  have HL := Lib.hid hl
  have HAG := Lib.hid hag
  obtain ⟨L, HLe⟩ : ∃ L, Hid (s.log = L) := ⟨_, Lib.hid rfl⟩
  have HLC := Lib.hid (fun (W : World) (h : ChairAt W g bm lv c s) => log_any g bm c lv s (by omega) W h)
  have HOP := Lib.hid (fun (W : World) (h : ChairAt W g bm lv c s) => open_any g bm c lv s (by omega) W h)
  clear hC hd hl hag
  go_enter Try.func16, Try.ntmps16
  go_upto_region 1 with fail
  generalize hv1 : World.alloc w _ = v1
  obtain ⟨hb1, hz1, hc1⟩ := alloc_facts hv1
  have c0 := hc1 0
  have c1 := hc1 1
  have HC1 := Lib.hid (HC.out.below hb1)
  have HB1 := Lib.hid hb1
  have HLV := Lib.hid (HLC.out v1 HC1.out)
  clear hv1 hc1
  go_wp2_with fail
  refine HLV.out.mono ?_
  rintro q v2 ⟨av, rfl, hao, hb2⟩
  obtain ⟨a0, cap0, rfl, hl0, hm0, hp0⟩ := own_parts hao
  have HB2 := Lib.hid (HB1.out.trans (hb2.mono HB1.out.size))
  have HC2 := Lib.hid (HC1.out.below hb2)
  have HL2 := Lib.hid (HL.out.below HB2.out)
  have HP0 := Lib.hid hp0
  have d0 := (hb2.cell (p := ⟨w.heap.size, 0, none⟩) hz1).trans c0
  have d1 := (hb2.cell (p := ⟨w.heap.size, 1, none⟩) hz1).trans c1
  have hz2 : w.heap.size < v2.heap.size := Nat.lt_of_lt_of_le hz1 hb2.size
  obtain ⟨a1, cap1, rfl, hl1, hm1, hp1⟩ := HL2.out
  have HP1 := Lib.hid hp1
  clear hao hb2 hp0 hp1 HLV HLC HC1 HB1 HC HL HL2 c0 c1 hz1 hb1
  unfold maxLen at hm0 hm1
  go_upto_region 4 with fail
  go_wp2_with fail
  go_loopw [26] (fun i wr => ∃ k : Nat, k ≤ s.log.length ∧ i = .int .i64 (k : Int) ∧ Below v2.heap.size v2 wr) (fun i _ => s.log.length - (intOf i).toNat)
  case atStart => exact ⟨0, Nat.zero_le _, rfl, Below.refl _ _⟩
  case round =>
    obtain ⟨k, hk, rfl, hB⟩ := hrel
    have HB := Lib.hid hB
    have e1 := (hB.cell (p := ⟨w.heap.size, 1, none⟩) hz2).trans d1
    by_cases hkl : k < s.log.length
    · have hkI : (k : Int) < (s.log.length : Int) := by omega
      have hk0 : (0 : Int) ≤ (k : Int) := by omega
      obtain ⟨g0, rfl, hgB, hgW, hr0, _⟩ := HP0.out (by omega)
      obtain ⟨b1, off1, rfl, hb1l, hr1⟩ := HP1.out (by omega)
      have r0 := rec_cells hr0 hkl
      have r1 := rec_cells hr1 hkl
      rw [Nat.zero_add] at r0
      have hgW' : g0 < v2.heap.size := hgW
      have HW0 := Lib.hid (show ∀ j u, (rec1 s.log[k])[j]? = some u → wr.cell? ⟨g0, k * 8 + j, none⟩ = some u from fun j u hu => (hB.cell (p := ⟨g0, k * 8 + j, none⟩) hgW').trans (r0 j u hu))
      have HW1 := Lib.hid (show ∀ j u, (rec1 s.log[k])[j]? = some u → wr.cell? ⟨b1, off1 + k * 8 + j, none⟩ = some u from fun j u hu => (hB.cell (p := ⟨b1, off1 + k * 8 + j, none⟩) hb1l).trans (r1 j u hu))
      generalize s.log[k] = r at *
      obtain ⟨kd, tx, who, ep, vt, now, sp, cp⟩ := r
      have x0 := HW0.out 0 _ rfl
      have x1 := HW0.out 1 _ rfl
      have x2 := HW0.out 2 _ rfl
      have x3 := HW0.out 3 _ rfl
      have x4 := HW0.out 4 _ rfl
      have x5 := HW0.out 5 _ rfl
      have x6 := HW0.out 6 _ rfl
      have x7 := HW0.out 7 _ rfl
      have y0 := HW1.out 0 _ rfl
      have y1 := HW1.out 1 _ rfl
      have y2 := HW1.out 2 _ rfl
      have y3 := HW1.out 3 _ rfl
      have y4 := HW1.out 4 _ rfl
      have y5 := HW1.out 5 _ rfl
      have y6 := HW1.out 6 _ rfl
      have y7 := HW1.out 7 _ rfl
      rw [Nat.add_zero] at x0 y0
      clear hr0 hr1 r0 r1 HW0 HW1 hB
      go_upto_region 7 with fail
      refine start_ (n := 10) (S := fun w' => Below wr.heap.size wr w' ∧ w'.cell? ⟨w.heap.size, 1, none⟩ = some (.slice (some ⟨b1, off1, none⟩) s.log.length cap1) ∧ w'.cell? ⟨g0, k * 8, none⟩ = some (.int .i64 kd) ∧ w'.cell? ⟨g0, k * 8 + 1, none⟩ = some (.int .i64 tx) ∧ w'.cell? ⟨g0, k * 8 + 2, none⟩ = some (.int .u8 who) ∧ w'.cell? ⟨g0, k * 8 + 3, none⟩ = some (.int .i64 ep) ∧ w'.cell? ⟨g0, k * 8 + 4, none⟩ = some (.int .i64 vt) ∧ w'.cell? ⟨g0, k * 8 + 5, none⟩ = some (.int .i64 now) ∧ w'.cell? ⟨g0, k * 8 + 6, none⟩ = some (.int .i64 sp) ∧ w'.cell? ⟨g0, k * 8 + 7, none⟩ = some (.int .i64 cp) ∧ w'.cell? ⟨b1, off1 + k * 8, none⟩ = some (.int .i64 kd) ∧ w'.cell? ⟨b1, off1 + k * 8 + 1, none⟩ = some (.int .i64 tx) ∧ w'.cell? ⟨b1, off1 + k * 8 + 2, none⟩ = some (.int .u8 who) ∧ w'.cell? ⟨b1, off1 + k * 8 + 3, none⟩ = some (.int .i64 ep) ∧ w'.cell? ⟨b1, off1 + k * 8 + 4, none⟩ = some (.int .i64 vt) ∧ w'.cell? ⟨b1, off1 + k * 8 + 5, none⟩ = some (.int .i64 now) ∧ w'.cell? ⟨b1, off1 + k * 8 + 6, none⟩ = some (.int .i64 sp) ∧ w'.cell? ⟨b1, off1 + k * 8 + 7, none⟩ = some (.int .i64 cp)) (ds := []) #[false, false, false, false, false, false, false, false, false, false] (by kernel_rfl) rfl rfl ⟨(still_drew wr).1, e1, x0, x1, x2, x3, x4, x5, x6, x7, y0, y1, y2, y3, y4, y5, y6, y7⟩ (fun hHeld => ?_)
      refine pure_ (i := 0) (N := some 29) (v := ?_) (a' := ?_) #[true, false, false, false, false, false, false, false, false, false] rfl rfl (by kernel_rfl) (fun _ _ _ h => h) (Or.inl ⟨by rfl, ?_⟩) ?_ ?_
      rotate_left
      · intro w'
        go_simp
        with_reducible rfl
      rotate_left
      · simp only [Act.put, List.setIfInBounds_toArray, List.set_cons_zero, List.set_cons_succ, i64_w, i32_w]
        rfl
      refine pure_ (i := 1) (N := some 30) (v := ?_) (a' := ?_) #[true, true, false, false, false, false, false, false, false, false] rfl rfl (by kernel_rfl) (fun _ _ _ h => h) (Or.inl ⟨by rfl, ?_⟩) ?_ ?_
      rotate_left
      · intro w'
        go_simp
        with_reducible rfl
      rotate_left
      · simp only [Act.put, List.setIfInBounds_toArray, List.set_cons_zero, List.set_cons_succ, i64_w, i32_w]
        rfl
      refine pure_ (i := 2) (N := some 31) (v := ?_) (a' := ?_) #[true, true, true, false, false, false, false, false, false, false] rfl rfl (by kernel_rfl) (fun _ _ _ h => h) (Or.inl ⟨by rfl, ?_⟩) ?_ ?_
      rotate_left
      · intro w'
        go_simp
        with_reducible rfl
      rotate_left
      · simp only [Act.put, List.setIfInBounds_toArray, List.set_cons_zero, List.set_cons_succ, i64_w, i32_w]
        rfl
      refine pure_ (i := 4) (N := some 33) (v := ?_) (a' := ?_) #[true, true, true, false, true, false, false, false, false, false] rfl rfl (by kernel_rfl) (fun _ _ _ h => h) (Or.inl ⟨by rfl, ?_⟩) ?_ ?_
      rotate_left
      · intro w'
        go_simp
        with_reducible rfl
      rotate_left
      · simp only [Act.put, List.setIfInBounds_toArray, List.set_cons_zero, List.set_cons_succ, i64_w, i32_w]
        rfl
      refine pure_ (i := 6) (N := some 35) (v := ?_) (a' := ?_) #[true, true, true, false, true, false, true, false, false, false] rfl rfl (by kernel_rfl) (fun _ _ _ h => h) (Or.inl ⟨by rfl, ?_⟩) ?_ ?_
      rotate_left
      · intro w'
        go_simp
        with_reducible rfl
      rotate_left
      · simp only [Act.put, List.setIfInBounds_toArray, List.set_cons_zero, List.set_cons_succ, i64_w, i32_w]
        rfl
      refine take_ (i := 3) (N := some 32) (v := ?_) (a' := ?_) #[true, true, true, true, true, false, true, false, false, false] rfl rfl (by kernel_rfl) (fun _ _ _ h => h) (Or.inl ⟨by rfl, ?_⟩) hHeld ?_ ?_
      rotate_left
      · rintro w' ⟨s0, s1, s2, s3, s4, s5, s6, s7, s8, s9, s10, s11, s12, s13, s14, s15, s16, s17⟩
        go_simp
        with_reducible rfl
      rotate_left
      · simp only [Act.put, List.setIfInBounds_toArray, List.set_cons_zero, List.set_cons_succ, i64_w, i32_w]
        rfl
      refine take_ (i := 5) (N := some 34) (v := ?_) (a' := ?_) #[true, true, true, true, true, true, true, false, false, false] rfl rfl (by kernel_rfl) (fun _ _ _ h => h) (Or.inl ⟨by rfl, ?_⟩) hHeld ?_ ?_
      rotate_left
      · rintro w' ⟨s0, s1, s2, s3, s4, s5, s6, s7, s8, s9, s10, s11, s12, s13, s14, s15, s16, s17⟩
        go_simp
        with_reducible rfl
      rotate_left
      · simp only [Act.put, List.setIfInBounds_toArray, List.set_cons_zero, List.set_cons_succ, i64_w, i32_w]
        rfl
      refine pure_ (i := 7) (N := some 36) (v := ?_) (a' := ?_) #[true, true, true, true, true, true, true, true, false, false] rfl rfl (by kernel_rfl) (fun _ _ _ h => h) (Or.inl ⟨by rfl, ?_⟩) ?_ ?_
      rotate_left
      · intro w'
        go_simp
        with_reducible rfl
      rotate_left
      · simp only [Act.put, List.setIfInBounds_toArray, List.set_cons_zero, List.set_cons_succ, i64_w, i32_w]
        rfl
      refine take_ (i := 8) (N := some 37) (v := ?_) (a' := ?_) #[true, true, true, true, true, true, true, true, true, false] rfl rfl (by kernel_rfl) (fun _ _ _ h => h) (Or.inl ⟨by rfl, ?_⟩) hHeld ?_ ?_
      rotate_left
      · rintro w' ⟨s0, s1, s2, s3, s4, s5, s6, s7, s8, s9, s10, s11, s12, s13, s14, s15, s16, s17⟩
        go_simp
        with_reducible rfl
      rotate_left
      · simp only [Act.put, List.setIfInBounds_toArray, List.set_cons_zero, List.set_cons_succ, i64_w, i32_w]
        rfl
      refine pure_ (i := 9) (N := some 38) (v := ?_) (a' := ?_) #[true, true, true, true, true, true, true, true, true, true] rfl rfl (by kernel_rfl) (fun _ _ _ h => h) (Or.inl ⟨by rfl, ?_⟩) ?_ ?_
      rotate_left
      · intro w'
        go_simp
        with_reducible rfl
      rotate_left
      · simp only [Act.put, List.setIfInBounds_toArray, List.set_cons_zero, List.set_cons_succ, i64_w, i32_w]
        rfl
      refine done_ (by kernel_rfl) ?_

      go_wp2_with fail
      exact ⟨⟨k + 1, by omega, by go_num, HB.out.trans (hHeld.1.mono HB.out.size)⟩, by simp [intOf]; omega⟩
    · obtain rfl : k = s.log.length := by omega
      have hkI : ¬ (s.log.length : Int) < (s.log.length : Int) := by omega
      have HCW := Lib.hid (HC2.out.below hB)
      have e0 := (hB.cell (p := ⟨w.heap.size, 0, none⟩) hz2).trans d0
      have hzw : w.heap.size < wr.heap.size := Nat.lt_of_lt_of_le hz2 hB.size
      clear hB
      go_upto_region 10 with fail
      go_wp2_with fail
      refine (HOP.out wr HCW.out).mono ?_
      rintro q v6 ⟨ov, rfl, hov, hb6⟩
      obtain ⟨O, HO⟩ : ∃ O, Hid (openN s.deals = O) := ⟨_, Lib.hid rfl⟩
      rw [HO.out] at hov
      obtain ⟨oa, ocap, rfl, hints⟩ := hov
      have HI := Lib.hid hints
      have HB6 := Lib.hid (HB2.out.trans ((HB.out.trans (hb6.mono HB.out.size)).mono HB2.out.size))
      have HC6 := Lib.hid (HCW.out.below hb6)
      have HD6 := Lib.hid (HD.out.below HB6.out)
      have g0 := (hb6.cell (p := ⟨w.heap.size, 0, none⟩) hzw).trans e0
      have g1 := (hb6.cell (p := ⟨w.heap.size, 1, none⟩) hzw).trans e1
      have hz6 : w.heap.size < v6.heap.size := Nat.lt_of_lt_of_le hzw hb6.size
      have hol : O.length ≤ 1000 := by
        rw [← HO.out, openN_len]
        exact Nat.le_trans List.countP_le_length (by simp)
      obtain ⟨a2, cap2, rfl, hl2, hm2, hp2⟩ := HD6.out
      have HP2 := Lib.hid hp2
      unfold maxLen at hm2
      clear hints hb6 hp2 e0 e1 HB HCW HP0 HP1 HOP HC2 HB2 HD
      go_upto_region 12 with fail
      go_wp2_with fail
      go_loopw [44] (fun i wr2 => ∃ k : Nat, k ≤ O.length ∧ i = .int .i64 (k : Int) ∧ Below v6.heap.size v6 wr2) (fun i _ => O.length - (intOf i).toNat)
      case atStart => exact ⟨0, Nat.zero_le _, rfl, Below.refl _ _⟩
      case round =>
        obtain ⟨k, hk, rfl, hB⟩ := hrel
        have HB := Lib.hid hB
        have n0 := (hB.cell (p := ⟨w.heap.size, 0, none⟩) hz6).trans g0
        have n1 := (hB.cell (p := ⟨w.heap.size, 1, none⟩) hz6).trans g1
        by_cases hkl : k < O.length
        · have hkI : (k : Int) < (O.length : Int) := by omega
          have hk0 : (0 : Int) ≤ (k : Int) := by omega
          obtain ⟨ob, rfl, hobB, hcell⟩ := HI.out (by omega)
          obtain ⟨ht1000, d, hfd, hd0⟩ := openN_mem (f := s.deals) (t := O[k]) (by rw [HO.out]; exact List.getElem_mem hkl)
          have hlk : lookR D (O[k] : Int) = some d := by rw [← HAG.out.look]; exact hfd
          obtain ⟨p, hp⟩ : ∃ p, placeR D (O[k] : Int) = some p := by
            have := place_isSome D (O[k] : Int)
            rw [hlk] at this
            exact Option.isSome_iff_exists.1 this
          obtain ⟨d2, hpd, hlk2⟩ := place_look hp
          obtain rfl : d = d2 := by rw [hlk] at hlk2; exact Option.some.inj hlk2
          have hpl : p < D.length := (List.getElem?_eq_some_iff.1 hpd).1
          have HFI := Lib.hid (rfind_any (.slice a2 D.length cap2) (.slice a1 s.log.length cap1) D (O[k] : Int) wr (HD6.out.below hB))
          rw [findR_some hp] at HFI
          have HSO := Lib.hid (fun j (hj : j < k) => show O[j]'(by omega) < O[k] from by have h := openN_lt s.deals hj (by rw [HO.out]; exact hkl); simpa [HO.out] using h)
          obtain ⟨b2, off2, rfl, hb2l, hrows⟩ := HP2.out (by omega)
          have x29 := hrows p hpl
          rw [show D[p] = ((O[k] : Int), d) from (List.getElem?_eq_some_iff.1 hpd).2] at x29
          have m29 := (hB.cell (p := ⟨b2, off2 + p * 30 + 29, none⟩) hb2l).trans (x29 29 _ rfl)
          have hobl : ob < v6.heap.size := Flat.cell_lt (hcell k hkl)
          have o1 := (hB.cell (p := ⟨ob, k, none⟩) hobl).trans (hcell k hkl)
          have hp0 : (0 : Int) ≤ (p : Int) := by omega
          have hpI : (p : Int) < (D.length : Int) := by omega
          have hpn : ¬ (p : Int) < 0 := by omega
          have hob2 : ob < wr.heap.size := Nat.lt_of_lt_of_le hobl hB.size
          have hb22 : b2 < wr.heap.size := Nat.lt_of_lt_of_le hb2l hB.size
          have hzr : w.heap.size < wr.heap.size := Nat.lt_of_lt_of_le hz6 hB.size
          have HOC := Lib.hid (fun j (hj : j < O.length) => (hB.cell (p := ⟨ob, j, none⟩) hobl).trans (hcell j hj))
          clear hp hpd hlk hlk2 hfd hrows x29 hcell hB
          cases k with
          | zero =>
            generalize O[0] = t at *
            go_upto_region 15 with fail
            go_wp2_with fail
            refine HFI.out.mono ?_
            rintro q v7 ⟨rfl, hb7⟩
            have n0' := (hb7.cell (p := ⟨w.heap.size, 0, none⟩) hzr).trans n0
            have m29' := (hb7.cell (p := ⟨b2, off2 + p * 30 + 29, none⟩) hb22).trans m29
            rw [hd0] at m29'
            have HB7 := Lib.hid (HB.out.trans (hb7.mono HB.out.size))
            clear hb7 n0 n1 m29 o1 HFI HSO HOC hd0
            go_upto_region 16 with fail
            go_wp2_with fail
            exact ⟨⟨0 + 1, by omega, by go_num, HB7.out⟩, by simp [intOf]; omega⟩
          | succ k' =>
            have o0 := HOC.out k' (by omega)
            have hlt := HSO.out k' (by omega)
            generalize O[k' + 1] = t at *
            generalize O[k']'(by omega) = t' at *
            have hlI : ¬ (t : Int) ≤ (t' : Int) := by omega
            go_upto_region 15 with fail
            go_wp2_with fail
            refine HFI.out.mono ?_
            rintro q v7 ⟨rfl, hb7⟩
            have n0' := (hb7.cell (p := ⟨w.heap.size, 0, none⟩) hzr).trans n0
            have m29' := (hb7.cell (p := ⟨b2, off2 + p * 30 + 29, none⟩) hb22).trans m29
            have o0' := (hb7.cell (p := ⟨ob, k', none⟩) hob2).trans o0
            rw [hd0] at m29'
            have HB7 := Lib.hid (HB.out.trans (hb7.mono HB.out.size))
            clear hb7 n0 n1 m29 o1 o0 HFI HSO HOC hd0
            go_upto_region 16 with fail
            go_wp2_with fail
            exact ⟨⟨k' + 1 + 1, by omega, by go_num, HB7.out⟩, by simp [intOf]; omega⟩
        · obtain rfl : k = O.length := by omega
          have hkO : ¬ (O.length : Int) < (O.length : Int) := by omega
          have hzr : w.heap.size < wr.heap.size := Nat.lt_of_lt_of_le hz6 hB.size
          have HCR := Lib.hid (HC6.out.below hB)
          have HP3 := Lib.hid (show 0 < D.length → ∃ b off, a2 = some ⟨b, off, none⟩ ∧ b < wr.heap.size ∧ ∀ i (h : i < D.length), wr.rangeAt b (off + i * 30) (rdc D[i].1 D[i].2) from fun h => by
            obtain ⟨b, off, e1, e2, e3⟩ := HP2.out h
            exact ⟨b, off, e1, Nat.lt_of_lt_of_le e2 hB.size, fun i hi j u hu => (hB.cell (p := ⟨b, _, none⟩) e2).trans (e3 i hi j u hu)⟩)
          have HBR := Lib.hid (HB6.out.trans (hB.mono (Nat.le_of_lt hz6)))
          have HDL := Lib.hid (fun (tx : Int) (h : (Lit.int .i64 tx).wf = true) (W : World) (hc : ChairAt W g bm lv c s) => deal_any g bm c lv s tx h W hc)
          obtain ⟨v7, hv7⟩ : ∃ v : World, v = wr := ⟨_, rfl⟩
          subst hv7
          clear hB HB HC6 HP2 HD6 HB6 HI g0 g1
          go_upto_region 19 with fail
          go_wp2_with fail
          go_loopw [8, 80] (fun n i wr2 => ∃ k : Nat, k ≤ D.length ∧ i = .int .i64 (k : Int) ∧ n = .int .i64 ((cntO D k : Nat) : Int) ∧ Below v7.heap.size v7 wr2) (fun _ i _ => D.length - (intOf i).toNat)
          case atStart => exact ⟨0, Nat.zero_le _, rfl, rfl, Below.refl _ _⟩
          case round =>
            obtain ⟨k, hk, rfl, rfl, hB⟩ := hrel
            have HB := Lib.hid hB
            have hcn := cntO_le D k
            by_cases hkl : k < D.length
            · have hkI : (k : Int) < (D.length : Int) := by omega
              have hk0 : (0 : Int) ≤ (k : Int) := by omega
              obtain ⟨b2, off2, rfl, hb2l, hrows⟩ := HP3.out (by omega)
              obtain ⟨tx, d, hx⟩ : ∃ tx d, D[k] = (tx, d) := ⟨_, _, rfl⟩
              have hxq : D[k]? = some (tx, d) := by rw [List.getElem?_eq_getElem hkl, hx]
              have hrg := HAG.out.rng _ (List.mem_of_getElem? hxq)
              have hsd : s.deals tx = some d := (HAG.out.look tx).trans (look_at HAG.out.keys hxq)
              have HDD := Lib.hid (fun W hc => HDL.out tx (wf64 hrg.1 hrg.2) W hc)
              rw [show dealOf s tx = d by rw [dealOf, hsd]; rfl, show (s.deals tx).isSome = true by rw [hsd]; rfl] at HDD
              have HCS := Lib.hid (show cntO D (k + 1) = cntO D k + (if d.out = 0 then 1 else 0) by rw [cntO_step D k hkl, hx])
              have HK := Lib.hid (show wr.rangeAt b2 (off2 + k * 30) (rdc tx d) from fun j u hu => by
                have h1 := hrows k hkl
                rw [hx] at h1
                exact (hB.cell (p := ⟨b2, off2 + k * 30 + j, none⟩) hb2l).trans (h1 j u hu))
              have HCW := Lib.hid (HCR.out.below hB)
              have hzw : w.heap.size < wr.heap.size := Nat.lt_of_lt_of_le hzr hB.size
              clear hrows hx hxq hrg hsd hB
              go_upto_region 21 with fail
              have HNEW := Lib.hid (fun B hB => there_newN wr B 75 30 hB)
              go_upto_region 22 with (first
                | (refine wpList_load_mid rfl 75 _ rfl b2 _ rfl (rdc tx d) _ HK.out Try.underlying75 rfl infoRDe ?_; simp only [Act.put, List.setIfInBounds_toArray, List.set_cons_succ, List.set_cons_zero])
                | (refine wpList_store_mid rfl 75 _ _ rfl (wr.heap.size) 0 (rdc tx d).toArray rfl rfl (HNEW.out _ rfl) infoRDe (all_oneCell_toArray (rdc_one _ _)) ?_; generalize hw8 : World.setCells _ _ _ _ = w8))
              obtain ⟨hb8, hz8, hX8, _⟩ := new_cells (xs := rdc tx d) (n := 30) rfl rfl (by decide) hw8
              have HX8 := Lib.hid (show RDeAt w8 wr.heap.size tx d from hX8)
              have HC8 := Lib.hid (HCW.out.below hb8)
              have HB8 := Lib.hid (HB.out.trans (hb8.mono HB.out.size))
              have hq8 : wr.heap.size < w8.heap.size := hz8
              clear hw8 hb8 hz8 hX8 HCW HB HK HNEW
              generalize wr.heap.size = b8 at *
              have p0 := HX8.out.parts.1
              go_wp2_with fail
              refine (HDD.out w8 HC8.out).mono ?_
              rintro q v9 ⟨rfl, hb9⟩
              have HX9 := Lib.hid (HX8.out.below hb9)
              have HB9 := Lib.hid (HB8.out.trans (hb9.mono HB8.out.size))
              have hq9 : b8 < v9.heap.size := Nat.lt_of_lt_of_le hq8 hb9.size
              clear hb9 HX8 HB8 HC8 p0 HDD
              have HNEW := Lib.hid (fun B hB => there_newN v9 B 44 29 hB)
              go_upto_region 23 with (refine wpList_store_mid rfl 44 _ _ rfl (v9.heap.size) 0 (dc d).toArray rfl rfl (HNEW.out _ rfl) infoDe (all_oneCell_toArray (dc_one _)) ?_; generalize hwA : World.setCells _ _ _ _ = wA)
              obtain ⟨hbA, hzA, hXA, _⟩ := new_cells (xs := dc d) (n := 29) rfl rfl (by decide) hwA
              have HYA := Lib.hid (show DeAt wA v9.heap.size d from hXA)
              have HXA := Lib.hid (HX9.out.below hbA)
              have HBA := Lib.hid (HB9.out.trans (hbA.mono HB9.out.size))
              clear hwA hbA hXA HX9 HB9 HNEW
              generalize v9.heap.size = b9 at *
              have p29 := HXA.out.parts.2.2.2
              have p28 := HYA.out.out
              have hq8A : b8 < wA.heap.size := Flat.cell_lt p29
              by_cases ho : d.out = 0
              · have hob : (d.out == 0) = true := by rw [ho]; rfl
                go_upto_region 25 with (first
                  | (refine wpList_on (by rfl) (range_run (x := .tmp 94) (b := b9) (o := 0) (cs := tc d.ta) rfl rfl HYA.out.ta Try.underlying40 rfl infoTa) ?_; simp only [Act.put, List.setIfInBounds_toArray, List.set_cons_succ, List.set_cons_zero])
                  | (refine wpList_on (by rfl) (range_run (x := .tmp 96) (b := b8) (o := 1) (cs := tc d.ta) rfl rfl HXA.out.parts.2.1 Try.underlying72 rfl infoRTa) ?_; simp only [Act.put, List.setIfInBounds_toArray, List.set_cons_succ, List.set_cons_zero])
                  | (refine wpList_on (by rfl) (ne_run (x := .tmp 95) (y := .tmp 97) rfl rfl rfl mode72 (rta_ne d.ta _)) ?_; simp only [Act.put, List.setIfInBounds_toArray, List.set_cons_succ, List.set_cons_zero])
                  | (refine wpList_on (by rfl) (range_run (x := .tmp 101) (b := b9) (o := 24) (cs := tec d.te) rfl rfl HYA.out.te Try.underlying42 rfl infoTe) ?_; simp only [Act.put, List.setIfInBounds_toArray, List.set_cons_succ, List.set_cons_zero])
                  | (refine wpList_on (by rfl) (range_run (x := .tmp 103) (b := b8) (o := 25) (cs := tec d.te) rfl rfl HXA.out.parts.2.2.1 Try.underlying73 rfl infoRTe) ?_; simp only [Act.put, List.setIfInBounds_toArray, List.set_cons_succ, List.set_cons_zero])
                  | (refine wpList_on (by rfl) (ne_run (x := .tmp 102) (y := .tmp 104) rfl rfl rfl mode73 (rte_ne d.te _)) ?_; simp only [Act.put, List.setIfInBounds_toArray, List.set_cons_succ, List.set_cons_zero]))
                go_wp2_with fail
                exact ⟨⟨k + 1, hkl, by go_num, by rw [HCS.out, if_pos ho]; go_num, HBA.out⟩, by simp [intOf]; omega⟩
              · have hob : (d.out == 0) = false := beq_eq_false_iff_ne.2 ho
                go_upto_region 25 with (first
                  | (refine wpList_on (by rfl) (range_run (x := .tmp 94) (b := b9) (o := 0) (cs := tc d.ta) rfl rfl HYA.out.ta Try.underlying40 rfl infoTa) ?_; simp only [Act.put, List.setIfInBounds_toArray, List.set_cons_succ, List.set_cons_zero])
                  | (refine wpList_on (by rfl) (range_run (x := .tmp 96) (b := b8) (o := 1) (cs := tc d.ta) rfl rfl HXA.out.parts.2.1 Try.underlying72 rfl infoRTa) ?_; simp only [Act.put, List.setIfInBounds_toArray, List.set_cons_succ, List.set_cons_zero])
                  | (refine wpList_on (by rfl) (ne_run (x := .tmp 95) (y := .tmp 97) rfl rfl rfl mode72 (rta_ne d.ta _)) ?_; simp only [Act.put, List.setIfInBounds_toArray, List.set_cons_succ, List.set_cons_zero])
                  | (refine wpList_on (by rfl) (range_run (x := .tmp 101) (b := b9) (o := 24) (cs := tec d.te) rfl rfl HYA.out.te Try.underlying42 rfl infoTe) ?_; simp only [Act.put, List.setIfInBounds_toArray, List.set_cons_succ, List.set_cons_zero])
                  | (refine wpList_on (by rfl) (range_run (x := .tmp 103) (b := b8) (o := 25) (cs := tec d.te) rfl rfl HXA.out.parts.2.2.1 Try.underlying73 rfl infoRTe) ?_; simp only [Act.put, List.setIfInBounds_toArray, List.set_cons_succ, List.set_cons_zero])
                  | (refine wpList_on (by rfl) (ne_run (x := .tmp 102) (y := .tmp 104) rfl rfl rfl mode73 (rte_ne d.te _)) ?_; simp only [Act.put, List.setIfInBounds_toArray, List.set_cons_succ, List.set_cons_zero]))
                go_wp2_with fail
                exact ⟨⟨k + 1, hkl, by go_num, by rw [HCS.out, if_neg ho]; simp, HBA.out⟩, by simp [intOf]; omega⟩
            · obtain rfl : k = D.length := by omega
              have hkD : ¬ (D.length : Int) < (D.length : Int) := by omega
              have heq : cntO D D.length = O.length := by
                rw [← HO.out, openN_len, show s.deals = lookR D from funext HAG.out.look, overAll_eq _ D HAG.out.keys HAG.out.rng, cntO, List.take_length]
              rw [heq]
              have HBF := Lib.hid (HBR.out.trans (hB.mono HBR.out.size))
              clear hB HB HCR HBR HP3 HDL heq
              go_wp2_with fail
              go_ret
              exact ⟨by first | rfl | simp, HBF.out⟩
end Go.Proofs.Ytdlfjbllmmkmkaa.Chair
