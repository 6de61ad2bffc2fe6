/- ScriptNothing: bytes that say nothing may stand ahead of steps. -/
import Derived.Test.YtammpdifkpfafaaGreatDoorScriptAlive
import Derived.OwnWalk
namespace Go.Proofs.YtammpdifkpfafaaGreatDoor.LScriptNothing
open Go.RowKit Flat Go.Proofs.YtammpdifkpfafaaGreatDoorW.PrintLast ByteMem ScriptSpec News
set_option linter.unusedSimpArgs false
set_option linter.unusedVariables false

theorem infoU : (Tryz.prog.info? 5).map (fun i => (i.zero, i.size, i.bytes)) = some (some (.int .u8 0), 1, 1) := by kernel_rfl
def bcl (l : List UInt8) : List Value := l.map fun c => .int .u8 (c.toNat : Int)
theorem bcl_one (l : List UInt8) : ∀ u ∈ bcl l, u.oneCell' = true := by
  intro u hu
  obtain ⟨c, _, rfl⟩ := List.mem_map.1 hu
  rfl
theorem bcl_zero (m : Nat) : List.replicate m (Value.int .u8 0) = bcl (List.replicate m 0) := by
  simp [bcl]
/-- Bytes that came in, appended to a row of one's own. -/
theorem append_bytes {ops : Array Oper} {rest : List Oper} {o : Oper} {a : Act} {w : World} {Q : Exit → Act → World → Prop} (hgd : o.guard = none) (s x : Operand) (t : TypeId)
    (ho : o.op = .call { callee := .builtin .append, args := #[s, x], argTypes := #[t, t] }) (ht : Tryz.prog.underlying t = some (.slice 5))
    (base n c B : Nat) (v : Value) (xs : List Value) (hs : a.eval s = v) (hown : w.ownsRow base 5 1 v n xs) (a0 : Option Addr) (l : List UInt8) (hx : a.eval x = .slice a0 l.length c) (hB : IsB w B a0 l)
    (h63 : n + l.length ≤ 140737488355328) (hbase : base ≤ w.heap.size)
    (h : ∀ v' w', w'.ownsRow base 5 1 v' (n + l.length) (xs ++ bcl l) → w.grownBy w' v.ownBlock → wpList Tryz.prog ops Q rest (a.put o.dst v') w') :
    wpList Tryz.prog ops Q (o :: rest) a w := by
  obtain ⟨i0, hi, hz0, hz1, hz2⟩ := info_parts infoU
  cases a0 with
  | none =>
    have hl0 : l = [] := by
      cases l with
      | nil => rfl
      | cons c l => obtain ⟨b, off, hb, _⟩ := hB (by simp); cases hb
    subst hl0
    refine wpList_plain hgd fun K hK => ?_
    have hr : (Builtin.append_ #[t, t] o.type #[v, .slice none 0 c]).run Tryz.prog w = .ok v w := by
      rcases hown.2 with ⟨rfl, rfl⟩ | ⟨g, cap, cur, rfl, _, _, hnc, _⟩
      · simp [Builtin.append_, run_underlying ht, sizeOf, typeInfo, hi, Builtin.lenOf, Builtin.firstCells]
      · simp [Builtin.append_, run_underlying ht, sizeOf, typeInfo, hi, Builtin.lenOf, Builtin.firstCells, hnc, storeCells]
    have hx' : a.eval x = .slice none 0 c := hx
    unfold Oper.wp execOp
    simp only [ho, resolve, invoke, builtin, Sem.run_bind, Sem.run_pure, Result.andThen_ok, List.map_toArray, List.map_cons, List.map_nil, hs, hx', hr]
    refine hK _ _ (h v w ?_ ⟨rfl, rfl, rfl, Nat.le_refl _, fun _ _ _ => rfl⟩)
    simpa [bcl] using hown
  | some ad =>
    refine wpList_append_own_at w hgd s x t ho base 5 i0 _ 1 1 ht hi hz0 hz1 hz2 rfl (by decide) v n xs hs hown ad l.length c (bcl l) hx (by simp [bcl]) ?_ (bcl_one l) (by unfold maxLen; omega) (by omega) hbase (fun v' w' h1 h2 _ _ => h v' w' h1 h2)
    intro j u hu
    have hj : j < l.length := by
      by_cases hj : j < l.length
      · exact hj
      · rw [List.getElem?_eq_none (by simp [bcl]; omega)] at hu; cases hu
    obtain ⟨b, off, hb, _, hc⟩ := hB (by omega)
    cases hb
    have e : ((⟨b, off, none⟩ : Addr).add j) = ⟨b, off + j, none⟩ := by unfold Addr.add; split <;> simp_all
    rw [e, hc j hj]
    simp [bcl, hj] at hu
    rw [hu]
/-- A row of bytes of one's own holds them. -/
theorem own_isb {w : World} {B : Nat} {v : Value} {l : List UInt8} (h : w.ownsRow B 5 1 v l.length (bcl l)) : ∃ a0 cap, v = .slice a0 l.length cap ∧ l.length ≤ cap ∧ cap ≤ maxLen ∧ IsB w w.heap.size a0 l := by
  have hlt := h.lt
  have hc := fun g => World.ownsRow.cells (g := g) h
  rcases h.2 with ⟨h1, h2⟩ | ⟨g, cap, cur, h1, hB, hg, h2, h3, _⟩
  · exact ⟨none, 0, by rw [h1, h2], by omega, by decide, fun hl => by omega⟩
  · subst h1
    refine ⟨_, cap, rfl, h2, h3, fun _ => ⟨g, 0, rfl, (hlt g rfl).2, fun i hi => ?_⟩⟩
    have := hc g rfl i (.int .u8 (l[i].toNat : Int)) (by simp [bcl, hi])
    have e : ((⟨g, 0, none⟩ : Addr).add i) = ⟨g, 0 + i, none⟩ := by unfold Addr.add; split <;> simp_all
    rwa [e] at this

/-- Three bytes that say nothing. -/
def three_ (a : Int) (m : Nat) : List UInt8 := [UInt8.ofNat (15 * (a.toNat % 17)), UInt8.ofNat (15 * (m % 17)), 0]
theorem three (a : Int) (m : Nat) (h0 : 0 ≤ a) (h1 : a ≤ 255) (hm : m ≤ 255) :
    ((UInt8.ofNat (15 * (a.toNat % 17))).toNat : Int) = 15 * (a % 17) ∧ ((UInt8.ofNat (15 * (m % 17))).toNat : Int) = 15 * ((m : Int) % 17) ∧ dec 0 (three_ a m) = [] := by
  have e1 : (UInt8.ofNat (15 * (a.toNat % 17))).toNat = 15 * (a.toNat % 17) := by rw [UInt8.toNat_ofNat']; omega
  have e2 : (UInt8.ofNat (15 * (m % 17))).toNat = 15 * (m % 17) := by rw [UInt8.toNat_ofNat']; omega
  refine ⟨by rw [e1]; omega, by rw [e2]; omega, ?_⟩
  have := dec_nothing 0 (three_ a m) [] (by
    intro c hc
    simp only [three_, List.mem_cons, List.not_mem_nil, or_false] at hc
    rcases hc with rfl | rfl | rfl
    · rw [e1]; omega
    · rw [e2]; omega
    · rfl) (by decide)
  rwa [List.append_nil, dec_nil] at this

set_option maxRecDepth 100000 in
set_option maxHeartbeats 4000000 in
theorem walk (a0 : Option Addr) (len0 cap0 : Nat) (r0 : List (List Value)) (a1 : Int) (a2 : Int) (w : World) (w0 : IsRows [.int .u8] w a0 len0 cap0 r0) (w1 : (Lit.int .u8 a1).wf = true) (w2 : (Lit.int .u8 a2).wf = true) :
    Calls Tryz.prog 5 #[.slice a0 len0 cap0, .int .u8 a1, .int .u8 a2] w fun e w' => e = .returned (.bool true) ∧ Below w.heap.size w w' := by
  obtain ⟨l, rfl, hlc, hcm, hib⟩ := rows_bytes w0
  have hcm' := hcm
  unfold maxLen at hcm'
  clear w0
  by_cases h2000 : 2000 < l.length
  · have hI : (2000 : Int) < (l.length : Int) := by omega
    clear hib
    go_enter Tryz.func5, Tryz.ntmps5
    go_wp2_with fail
    refine (alive_any _).mono ?_
    rintro e v1 ⟨rfl, hb1⟩
    go_wp2_with fail
    go_ret
    exact ⟨rfl, hb1⟩
  · have hI : ¬ (2000 : Int) < (l.length : Int) := by omega
    have HIB := Lib.hid hib
    clear hib
    obtain ⟨q0, q1⟩ := bounds_u8 w1
    obtain ⟨q2, q3⟩ := bounds_u8 w2
    obtain ⟨m, rfl⟩ : ∃ m : Nat, a1 = (m : Int) := ⟨a1.toNat, by omega⟩
    clear w1 w2
    go_enter Tryz.func5, Tryz.ntmps5
    go_wp2_with fail
    refine (alive_any _).mono ?_
    rintro e v1 ⟨rfl, hb1⟩
    have HB1 := Lib.hid hb1
    have HIB1 := Lib.hid ((HIB.out.below hb1).mono hb1.size)
    clear hb1
    go_wp2_with fail
    refine (Script.decode_any v1 a0 l cap0 HIB1.out hlc hcm).mono ?_
    rintro e v2 ⟨va, rfl, hoa, hb2⟩
    obtain ⟨aa, ca, rfl⟩ := Script.owns_slice hoa
    have HOA2 := Lib.hid hoa
    have HB2 := Lib.hid (HB1.out.trans (hb2.mono HB1.out.size))
    have HIB2 := Lib.hid ((HIB1.out.below hb2).mono hb2.size)
    clear hoa hb2 HB1 HIB1 HIB
    obtain ⟨i0, hi, hz0, hz1, hz2⟩ := info_parts infoU
    have HI := Lib.hid hi
    have HZ0 := Lib.hid hz0
    have HZ1 := Lib.hid hz1
    have HZ2 := Lib.hid hz2
    clear hi hz0 hz1 hz2
    go_wp2_with (first
      | (at_make; go_loud (refine wpList_make_full _ rfl _ _ 22 rfl v2.heap.size 5 i0 _ 1 Tryz.underlying22 HI.out HZ0.out HZ1.out .u8 .u8 (m : Int) (m : Int) m rfl rfl rfl rfl (by rw [HZ2.out]; omega) (by unfold maxLen; omega) (Nat.le_refl _) ?_; intro v3 hm3 hg3; rw [show (madeCells (Value.int .u8 0).cells (m * 1)).toList = bcl (List.replicate m 0) from (toList_madeCells_one (.int .u8 0) (m * 1)).trans (by rw [Nat.mul_one, bcl_zero])] at hm3; have HM3 := Lib.hid hm3; have HG3 := Lib.hid hg3; clear hm3 hg3))
      | (at_builtin; go_loud (refine append_bytes rfl _ _ 22 rfl Tryz.underlying22 v2.heap.size _ cap0 _ _ _ rfl HM3.out a0 l rfl (HIB2.out.below (below_grown HG3.out)) (by omega) HG3.out.size ?_; intro v4 w4 hm4 hg4; have hb4 : Below v2.heap.size _ w4 := (Below.refl _ _).grown hg4 HG3.out.size (fun j hj => (HM3.out.lt j hj).1); rw [show m + l.length = (List.replicate m 0 ++ l).length by simp, show bcl (List.replicate m 0) ++ bcl l = bcl (List.replicate m 0 ++ l) by simp [bcl]] at hm4; obtain ⟨a4, c4, rfl, hl4, hc4, hi4⟩ := own_isb hm4; have HI4 := Lib.hid hi4; have HB4 := Lib.hid hb4; clear hm4 hg4 hb4 hi4)))
    have HDN : Hid (dec 0 (List.replicate m 0 ++ l) = dec 0 l) := Lib.hid (dec_nothing 0 _ _ (by intro c hc; rw [List.eq_of_mem_replicate hc]; rfl) (by decide))
    have hd4 := Script.decode_any w4 a4 (List.replicate m 0 ++ l) c4 HI4.out hl4 hc4
    rw [show (List.replicate m (0 : UInt8) ++ l).length = m + l.length by simp] at hd4
    refine hd4.mono ?_
    rintro e v5 ⟨vb, rfl, hob, hb5⟩
    rw [HDN.out] at hob
    have hs42 := HB4.out.size
    have hs32 := HG3.out.size
    have HB34 : Hid (Below v2.heap.size v2 w4) := Lib.hid ((below_grown HG3.out).trans HB4.out)
    have HB5 := Lib.hid ((HB2.out.trans (HB34.out.mono HB2.out.size)).trans (hb5.mono (Nat.le_trans HB2.out.size HB34.out.size)))
    obtain ⟨ab, cb, rfl⟩ := Script.owns_slice hob
    have HOB := Lib.hid hob
    have HOA := Lib.hid (Script.owns_below HOA2.out (HB34.out.trans (hb5.mono HB34.out.size)))
    have hroom := dec_room 0 l (by omega)
    generalize dec 0 l = st at *
    clear hd4 hob hb5 HB34 HI4 HB4 HG3 HM3 HB2 HOA2 HIB2 HDN hs42 hs32 hl4 hc4
    go_wp2_with fail
    go_loopw [29] (fun i wr => ∃ k : Nat, k ≤ st.length ∧ i = .int .i64 (k : Int) ∧ v5.grownBy wr none) (fun i _ => st.length - (intOf i).toNat)
    case atStart => exact ⟨0, by omega, rfl, ⟨rfl, rfl, rfl, Nat.le_refl _, fun _ _ _ => rfl⟩⟩
    case round =>
      obtain ⟨wo, h_wo⟩ : ∃ v : World, v = wr := ⟨_, rfl⟩; subst h_wo
      obtain ⟨k, hk, rfl, hG⟩ := hrel
      have hb := below_grown hG
      have HB := Lib.hid hb
      clear hG hb
      by_cases hkn : k = st.length
      · subst hkn
        go_wp2_with fail
        obtain ⟨e1, e2, e3⟩ := three a2 m q2 q3 (by omega)
        have hd3 := Script.decode_any (wo.alloc (.cells #[.int .u8 (15 * (a2 % 17)), .int .u8 (15 * ((m : Int) % 17)), .int .u8 0] 5)) (some ⟨wo.heap.size, 0, none⟩) (three_ a2 m) 3 (isb_alloc _ _ _ _ (by
          intro i hi
          have hi3 : i < 3 := hi
          rcases (by omega : i = 0 ∨ i = 1 ∨ i = 2) with rfl | rfl | rfl
          · show some (Value.int .u8 (15 * (a2 % 17))) = some (.int .u8 ((UInt8.ofNat (15 * (a2.toNat % 17))).toNat : Int))
            rw [e1]
          · show some (Value.int .u8 (15 * ((m : Int) % 17))) = some (.int .u8 ((UInt8.ofNat (15 * (m % 17))).toNat : Int))
            rw [e2]
          · rfl)) (Nat.le_refl _) (by decide)
        refine Calls.mono hd3 ?_
        rintro e v7 ⟨vc, rfl, hoc, hb7⟩
        rw [e3] at hoc
        obtain ⟨ac, cc, rfl⟩ := Script.owns_slice hoc
        have HB7 := Lib.hid (((Below.refl wo.heap.size wo).alloc (Nat.le_refl _) _).trans (hb7.mono (by simp)))
        clear hd3 hoc hb7 e1 e2 e3
        simp only [List.length_nil]
        go_wp2_with fail
        go_ret
        exact ⟨rfl, HB5.out.trans ((HB.out.mono HB5.out.size).trans (HB7.out.mono (Nat.le_trans HB5.out.size HB.out.size)))⟩
      · have hkI : (k : Int) < (st.length : Int) := by omega
        have hkl : k < st.length := by omega
        have hk0 : (0 : Int) ≤ (k : Int) := by omega
        obtain ⟨ga, ca', hga, _, _, _, hgal, hca⟩ := Script.owns_read HOA.out (by omega)
        obtain ⟨gb, cb', hgb, _, _, _, hgbl, hcb⟩ := Script.owns_read HOB.out (by omega)
        obtain ⟨rfl, rfl⟩ : aa = some ⟨ga, 0, none⟩ ∧ ca = ca' := by simpa using hga
        obtain ⟨rfl, rfl⟩ : ab = some ⟨gb, 0, none⟩ ∧ cb = cb' := by simpa using hgb
        obtain ⟨x0, x1, x2, x3, x4, x5, x6⟩ := hca k (by omega)
        obtain ⟨y0, y1, y2, y3, y4, y5, y6⟩ := hcb k (by omega)
        generalize st[k]'(by omega) = s at *
        replace x0 := (HB.out.cell (p := ⟨ga, k * 7, none⟩) hgal).trans x0
        replace x1 := (HB.out.cell (p := ⟨ga, k * 7 + 1, none⟩) hgal).trans x1
        replace x2 := (HB.out.cell (p := ⟨ga, k * 7 + 2, none⟩) hgal).trans x2
        replace x3 := (HB.out.cell (p := ⟨ga, k * 7 + 3, none⟩) hgal).trans x3
        replace x4 := (HB.out.cell (p := ⟨ga, k * 7 + 4, none⟩) hgal).trans x4
        replace x5 := (HB.out.cell (p := ⟨ga, k * 7 + 5, none⟩) hgal).trans x5
        replace x6 := (HB.out.cell (p := ⟨ga, k * 7 + 6, none⟩) hgal).trans x6
        replace y0 := (HB.out.cell (p := ⟨gb, k * 7, none⟩) hgbl).trans y0
        replace y1 := (HB.out.cell (p := ⟨gb, k * 7 + 1, none⟩) hgbl).trans y1
        replace y2 := (HB.out.cell (p := ⟨gb, k * 7 + 2, none⟩) hgbl).trans y2
        replace y3 := (HB.out.cell (p := ⟨gb, k * 7 + 3, none⟩) hgbl).trans y3
        replace y4 := (HB.out.cell (p := ⟨gb, k * 7 + 4, none⟩) hgbl).trans y4
        replace y5 := (HB.out.cell (p := ⟨gb, k * 7 + 5, none⟩) hgbl).trans y5
        replace y6 := (HB.out.cell (p := ⟨gb, k * 7 + 6, none⟩) hgbl).trans y6
        have hne := fun W => step_same s W
        clear hca hcb hga hgb HOA HOB
        go_wp2_with fail
        refine start_ (n := 9) (S := fun w' => w'.cell? ⟨ga, k * 7, none⟩ = some (.int .i64 s.what) ∧ w'.cell? ⟨ga, k * 7 + 1, none⟩ = some (.int .i64 s.tx) ∧ w'.cell? ⟨ga, k * 7 + 2, none⟩ = some (.int .u8 s.a) ∧ w'.cell? ⟨ga, k * 7 + 3, none⟩ = some (.int .u8 s.b) ∧ w'.cell? ⟨ga, k * 7 + 4, none⟩ = some (.int .i64 s.kind) ∧ w'.cell? ⟨ga, k * 7 + 5, none⟩ = some (.int .u8 s.key) ∧ w'.cell? ⟨ga, k * 7 + 6, none⟩ = some (.int .i64 s.n) ∧ w'.cell? ⟨gb, k * 7, none⟩ = some (.int .i64 s.what) ∧ w'.cell? ⟨gb, k * 7 + 1, none⟩ = some (.int .i64 s.tx) ∧ w'.cell? ⟨gb, k * 7 + 2, none⟩ = some (.int .u8 s.a) ∧ w'.cell? ⟨gb, k * 7 + 3, none⟩ = some (.int .u8 s.b) ∧ w'.cell? ⟨gb, k * 7 + 4, none⟩ = some (.int .i64 s.kind) ∧ w'.cell? ⟨gb, k * 7 + 5, none⟩ = some (.int .u8 s.key) ∧ w'.cell? ⟨gb, k * 7 + 6, none⟩ = some (.int .i64 s.n)) (ds := []) #[false, false, false, false, false, false, false, false, false] (by kernel_rfl) rfl rfl ⟨x0, x1, x2, x3, x4, x5, x6, y0, y1, y2, y3, y4, y5, y6⟩ (fun hHeld => ?_)
        refine pure_ (i := 0) (N := some 32) (v := ?_) (a' := ?_) #[true, false, false, false, false, false, false, false, false] rfl rfl (by kernel_rfl) (fun _ _ _ h => h) (Or.inl ⟨by rfl, ?_⟩) ?_ ?_
        rotate_left
        · intro w'
          go_simp
          with_reducible rfl
        rotate_left
        · simp only [Act.put, List.setIfInBounds_toArray, List.set_cons_zero, List.set_cons_succ, i64_w, i32_w]
          rfl
        refine pure_ (i := 1) (N := some 33) (v := ?_) (a' := ?_) #[true, true, false, false, false, false, false, false, false] rfl rfl (by kernel_rfl) (fun _ _ _ h => h) (Or.inl ⟨by rfl, ?_⟩) ?_ ?_
        rotate_left
        · intro w'
          go_simp
          with_reducible rfl
        rotate_left
        · simp only [Act.put, List.setIfInBounds_toArray, List.set_cons_zero, List.set_cons_succ, i64_w, i32_w]
          rfl
        refine pure_ (i := 2) (N := some 34) (v := ?_) (a' := ?_) #[true, true, true, false, false, false, false, false, false] rfl rfl (by kernel_rfl) (fun _ _ _ h => h) (Or.inl ⟨by rfl, ?_⟩) ?_ ?_
        rotate_left
        · intro w'
          go_simp
          with_reducible rfl
        rotate_left
        · simp only [Act.put, List.setIfInBounds_toArray, List.set_cons_zero, List.set_cons_succ, i64_w, i32_w]
          rfl
        refine pure_ (i := 4) (N := some 36) (v := ?_) (a' := ?_) #[true, true, true, false, true, false, false, false, false] rfl rfl (by kernel_rfl) (fun _ _ _ h => h) (Or.inl ⟨by rfl, ?_⟩) ?_ ?_
        rotate_left
        · intro w'
          go_simp
          with_reducible rfl
        rotate_left
        · simp only [Act.put, List.setIfInBounds_toArray, List.set_cons_zero, List.set_cons_succ, i64_w, i32_w]
          rfl
        refine pure_ (i := 5) (N := some 37) (v := ?_) (a' := ?_) #[true, true, true, false, true, true, false, false, false] rfl rfl (by kernel_rfl) (fun _ _ _ h => h) (Or.inl ⟨by rfl, ?_⟩) ?_ ?_
        rotate_left
        · intro w'
          go_simp
          with_reducible rfl
        rotate_left
        · simp only [Act.put, List.setIfInBounds_toArray, List.set_cons_zero, List.set_cons_succ, i64_w, i32_w]
          rfl
        refine pure_ (i := 6) (N := some 38) (v := ?_) (a' := ?_) #[true, true, true, false, true, true, true, false, false] rfl rfl (by kernel_rfl) (fun _ _ _ h => h) (Or.inl ⟨by rfl, ?_⟩) ?_ ?_
        rotate_left
        · intro w'
          go_simp
          with_reducible rfl
        rotate_left
        · simp only [Act.put, List.setIfInBounds_toArray, List.set_cons_zero, List.set_cons_succ, i64_w, i32_w]
          rfl
        refine take_ (i := 3) (N := some 35) (v := ?_) (a' := ?_) #[true, true, true, true, true, true, true, false, false] rfl rfl (by kernel_rfl) (fun _ _ _ h => h) (Or.inl ⟨by rfl, ?_⟩) hHeld ?_ ?_
        rotate_left
        · rintro w' ⟨s0, s1, s2, s3, s4, s5, s6, s7, s8, s9, s10, s11, s12, s13⟩
          go_simp
          with_reducible rfl
        rotate_left
        · simp only [Act.put, List.setIfInBounds_toArray, List.set_cons_zero, List.set_cons_succ, i64_w, i32_w]
          rfl
        refine take_ (i := 7) (N := some 39) (v := ?_) (a' := ?_) #[true, true, true, true, true, true, true, true, false] rfl rfl (by kernel_rfl) (fun _ _ _ h => h) (Or.inl ⟨by rfl, ?_⟩) hHeld ?_ ?_
        rotate_left
        · rintro w' ⟨s0, s1, s2, s3, s4, s5, s6, s7, s8, s9, s10, s11, s12, s13⟩
          go_simp
          with_reducible rfl
        rotate_left
        · simp only [Act.put, List.setIfInBounds_toArray, List.set_cons_zero, List.set_cons_succ, i64_w, i32_w]
          rfl
        refine pure_ (i := 8) (N := some 40) (v := ?_) (a' := ?_) #[true, true, true, true, true, true, true, true, true] rfl rfl (by kernel_rfl) (fun _ _ _ h => h) (Or.inl ⟨by rfl, ?_⟩) ?_ ?_
        rotate_left
        · intro w'
          go_simp
          with_reducible rfl
        rotate_left
        · simp only [Act.put, List.setIfInBounds_toArray, List.set_cons_zero, List.set_cons_succ, i64_w, i32_w]
          rfl
        refine done_ (by kernel_rfl) ?_

        go_wp2_with fail
        exact ⟨⟨k + 1, by omega, by go_num, grown_of_below HB.out.drew⟩, by simp [intOf]; omega⟩
end Go.Proofs.YtammpdifkpfafaaGreatDoor.LScriptNothing
