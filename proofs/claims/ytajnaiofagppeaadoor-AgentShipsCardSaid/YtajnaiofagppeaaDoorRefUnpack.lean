/- What the reference's Unpack answers. -/
import Derived.Test.YtajnaiofagppeaaDoorRefPack
namespace Go.Proofs.YtajnaiofagppeaaDoor.RefPack
open Go Go.RowKit Go.Shelf CodeSpec AgentSpec Flat CodeMem Ballot SeqOver Collect Pack RefBal Go.Proofs.YtajnaiofagppeaaDoorW.PrintLast
set_option linter.unusedSimpArgs false
set_option linter.unusedVariables false
set_option maxRecDepth 100000
def OwnRB (w : World) (B : Nat) (v : Value) (l : List Ba) : Prop := w.ownsRow B 42 2 v l.length (bcl l)
/-- A row of ballots of one's own, read, of whatever type. -/
theorem own_balT {w : World} {B : Nat} {e : TypeId} {v : Value} {l : List Ba} (h : w.ownsRow B e 2 v l.length (bcl l)) : IsBal w v l := by
  have hc := fun g => World.ownsRow.cells (g := g) h
  have hlt := h.lt
  rcases h.2 with ⟨h1, h2⟩ | ⟨g, cap, cur, h1, _, _, h3, h4, _⟩
  · exact ⟨none, 0, by rw [h1, h2], by omega, Nat.zero_le _, fun h => by omega⟩
  · subst h1
    refine ⟨_, cap, rfl, h3, h4, fun hl => ⟨g, 0, rfl, (hlt g rfl).2, fun i hi => ?_⟩⟩
    have hd : ∀ (l : List Ba) (i : Nat) (h : i < l.length), (bcl l)[i * 2]? = some (.int .i64 l[i].tx) ∧ (bcl l)[i * 2 + 1]? = some (.int .i64 l[i].vote) := by
      intro l
      induction l with
      | nil => intro i h; simp at h
      | cons b l ih =>
        intro i h
        cases i with
        | zero => exact ⟨rfl, rfl⟩
        | succ i =>
          have k := ih i (by simpa using h)
          rw [show (i + 1) * 2 = i * 2 + 1 + 1 by omega]
          exact k
    have k := hd l i hi
    refine ⟨?_, ?_⟩
    · have q := hc g rfl (i * 2) _ k.1
      rw [show ((⟨g, 0, none⟩ : Addr).add (i * 2)) = ⟨g, 0 + i * 2, none⟩ by unfold Addr.add; split <;> simp_all] at q
      exact q
    · have q := hc g rfl (i * 2 + 1) _ k.2
      rw [show ((⟨g, 0, none⟩ : Addr).add (i * 2 + 1)) = ⟨g, 0 + i * 2 + 1, none⟩ by unfold Addr.add; split <;> simp_all [Nat.add_assoc]] at q
      exact q
theorem vals_get : ∀ (L : List Ba) (k : Nat) (h : k < L.length), (valsL L)[2 * k]? = some ⟨L[k].tx.toNat, noS⟩ ∧ (valsL L)[2 * k + 1]? = some ⟨L[k].vote.toNat, noS⟩
  | b :: L, 0, h => ⟨rfl, rfl⟩
  | b :: L, k + 1, h => by
    have q := vals_get L k (by simpa using h)
    rw [show 2 * (k + 1) = 2 * k + 1 + 1 by omega]
    exact q
theorem threes_small (s : List UInt8) : ∀ b ∈ threes s, 0 ≤ b.tx ∧ b.tx < 65536 ∧ 0 ≤ b.vote ∧ b.vote < 256 := by
  fun_induction threes s with
  | case1 a b c l ih =>
    intro x hx
    rcases List.mem_cons.1 hx with rfl | hx
    · have h1 := val_lt [a, b]
      have h2 := val_lt [c]
      rw [show (256 : Nat) ^ [a, b].length = 65536 from rfl] at h1
      rw [show (256 : Nat) ^ [c].length = 256 from rfl] at h2
      dsimp only
      omega
    · exact ih x hx
  | case2 s h => intro x hx; simp at hx
theorem dec_big (s : List UInt8) (h : 150 < s.length) : (dec (shapeL (s.length / 3)) s).2 ≠ 0 := by
  unfold dec
  by_cases h50 : s.length / 3 ≤ 50
  · rw [if_neg (by rw [shape_right h50]; decide), parse_ballots (s.length / 3) s (by omega)]
    have hne : s.drop (3 * (s.length / 3)) ≠ [] := by
      intro e
      have := congrArg List.length e
      rw [List.length_drop, List.length_nil] at this
      omega
    cases hd : s.drop (3 * (s.length / 3)) with
    | nil => exact absurd hd hne
    | cons x y => simp
  · have hf : shapeB (shapeL (s.length / 3)) = false := by
      unfold shapeB
      rw [shape_len, decide_eq_false (by omega), Bool.and_false]
    rw [if_pos hf]
    simp
/-- What Decode makes of any cargo. -/
theorem dec_any (s : List UInt8) : (∃ T, dec (shapeL (s.length / 3)) s = T ∧ T.2 ≠ 0 ∧ unpackL s = ([], 4)) ∨
    (dec (shapeL (s.length / 3)) s = (valsL (threes s), 0) ∧ (threes s).length ≤ 50 ∧ unpackL s = if rightL (threes s) = true then (threes s, 0) else ([], 4)) := by
  by_cases h : 150 < s.length
  · exact .inl ⟨_, rfl, dec_big s h, by rw [unpackL, if_pos h]⟩
  · by_cases h3 : s.length % 3 = 0
    · refine .inr ⟨by rw [dec_cargo s (by omega), if_pos h3], by rw [threes_len]; omega, ?_⟩
      rw [unpackL, if_neg h]
      by_cases hr : rightL (threes s) = true
      · rw [if_pos ⟨h3, hr⟩, if_pos hr]
      · rw [if_neg (fun q => hr q.2), if_neg hr]
    · refine .inl ⟨_, rfl, by rw [dec_cargo s (by omega), if_neg h3]; simp, ?_⟩
      rw [unpackL, if_neg h, if_neg (fun q => h3 q.1)]
def RUnpackPost (T : List Ba × Int) (w : World) (e : Ending) (w' : World) : Prop := ∃ v, e = .returned (.tuple #[v, .int .i64 T.2]) ∧ OwnRB w' w.heap.size v T.1 ∧ Below w.heap.size w w'
def RelRU (w : World) (L : List Ba) (v i : Value) (wr : World) : Prop := ∃ k, k ≤ L.length ∧ i = .int .i64 ((2 * k : Nat) : Int) ∧ OwnRB wr w.heap.size v (L.take k) ∧ Below w.heap.size w wr
set_option maxHeartbeats 4000000 in
theorem runpack_any (s : ByteArray) (hs : s.size ≤ 2000) (w : World) : Calls Tryd.prog 14 #[.string s] w (RUnpackPost (unpackL s.data.toList) w) := by
  have hsz := size_toList s
  have hsm : s.size ≤ maxLen := by unfold maxLen; omega
  have hq : (s.size : Int).tdiv 3 = ((s.size / 3 : Nat) : Int) := by rw [Int.tdiv_eq_ediv_of_nonneg (by omega)]; omega
  have hq2 : IntKind.i64.wrap ((s.size / 3 : Nat) : Int) = ((s.size / 3 : Nat) : Int) := by rw [IntKind.wrap_i64]; omega
  obtain ⟨n3, hn3⟩ : ∃ n3, s.size / 3 = n3 := ⟨_, rfl⟩
  have hn50 : n3 ≤ 1000 := by omega
  rw [hn3] at hq hq2
  have HN3 := Lib.hid hn3
  have HSZ := Lib.hid hsz
  have HD := dec_any s.data.toList
  rw [hsz, hn3] at HD
  have HS3 := Lib.hid (threes_small s.data.toList)
  have HV := HD
  obtain ⟨i0, hi, hz0, hz1, hz2⟩ := info_parts infoRB
  obtain ⟨U, hU⟩ : ∃ U, U = unpackL s.data.toList := ⟨_, rfl⟩
  rw [← hU] at HV ⊢
  clear hU
  generalize threes s.data.toList = L at *
  have HV := Lib.hid HV
  clear hn3 hsz HD
  go_enter Tryd.func14, Tryd.ntmps14
  go_wp2_with fail
  refine (shape_any n3 hn50 _).mono ?_
  rintro e w1 ⟨sh, rfl, hsh, hb1⟩
  have HSH := Lib.hid hsh
  have hss := size_shape hsh
  clear hsh
  have kc := fun w => Go.Lib.run_convert_string_bytes (P := Tryd.prog) w 9 81 5 s Tryd.underlying9 Tryd.underlying81 Tryd.underlying5
  go_wp2_with fail
  have HDX := rdecode_use sh (some ⟨w1.heap.size, 0, none⟩) s.data.toList (grownCap w1 s.size 0 5) (Go.Lib.bytesWorld w1 5 s) (by rw [hss]; unfold maxLen; omega) (bytes_is w1 s) (by rw [HSZ.out]; exact grownCap_ge _ _ _ _) (grownCap_le_maxLen _ _ _ _ hsm)
  rw [HSZ.out, HSH.out] at HDX
  have hb12 := bytes_below w1 5 s
  rcases HV.out with ⟨T, h1, h2, h3⟩ | ⟨h1, h2, h3⟩
  · rw [h1] at HDX
    subst h3
    refine HDX.mono ?_
    rintro e w2 ⟨v, rfl, hv, _, hb2⟩
    have hB2 : Below w.heap.size w w2 := (hb1.trans (hb12.mono hb1.size)).trans (hb2.mono (Nat.le_trans hb1.size hb12.size))
    obtain ⟨Tv, Te⟩ := T
    dsimp only at h2 ⊢
    obtain ⟨va, vc, rfl, _⟩ := hv
    have hne : (Te != 0) = true := bne_iff_ne.2 h2
    clear HDX kc hq hq2 h1 h2 hb1 hb2 hb12 HV
    go_wp2_with fail
    go_ret2
    exact ⟨_, rfl, World.ownsRow_nil _ _ _ 2, hB2⟩
  · rw [h1] at HDX
    have HT := Lib.hid h3
    refine HDX.mono ?_
    rintro e w2 ⟨v, rfl, hv, _, hb2⟩
    have hB2 : Below w.heap.size w w2 := (hb1.trans (hb12.mono hb1.size)).trans (hb2.mono (Nat.le_trans hb1.size hb12.size))
    obtain ⟨va, vc, rfl, _, _, hvc⟩ := hv
    dsimp only at hvc ⊢
    have hvl := vals_len L
    have HVC := Lib.hid (show 0 < L.length → ∃ b off, va = some ⟨b, off, none⟩ ∧ b < w2.heap.size ∧ ∀ k (h : k < L.length), w2.cell? ⟨b, off + 2 * k * 2, none⟩ = some (.int .u64 ((L[k].tx.toNat : Nat) : Int)) ∧ w2.cell? ⟨b, off + (2 * k + 1) * 2, none⟩ = some (.int .u64 ((L[k].vote.toNat : Nat) : Int)) from fun h0 => by
      obtain ⟨b, off, e1, e2, e3⟩ := hvc (by omega)
      refine ⟨b, off, e1, e2, fun k hk => ?_⟩
      obtain ⟨g1, g2⟩ := vals_get L k hk
      have k1 := (e3 (2 * k) (by omega)).1
      have k2 := (e3 (2 * k + 1) (by omega)).1
      rw [(List.getElem?_eq_some_iff.1 g1).2] at k1
      rw [(List.getElem?_eq_some_iff.1 g2).2] at k2
      exact ⟨k1, k2⟩)
    rw [hvl]
    clear HDX kc hq hq2 h1 h3 hb1 hb2 hb12 HV hvc hvl
    generalize hN : 2 * L.length = n
    go_wp2_with fail
    go_loopw [6, 7] (fun v i wr => RelRU w2 L v i wr) (fun _ i _ => n - (intOf i).toNat)
    case atStart => exact ⟨0, Nat.zero_le _, rfl, World.ownsRow_nil _ _ _ 2, Below.refl _ _⟩
    case round =>
      obtain ⟨wo, h_wo⟩ : ∃ v : World, v = wr := ⟨_, rfl⟩; subst h_wo
      obtain ⟨k, hk, rfl, hob, hBx⟩ := hrel
      by_cases hkl : k < L.length
      · obtain ⟨b, off, rfl, hbl, hd⟩ := HVC.out (by omega)
        have q0 := (hBx.cell (p := ⟨b, off + 2 * k * 2, none⟩) hbl).trans (hd k hkl).1
        have q1 := (hBx.cell (p := ⟨b, off + (2 * k + 1) * 2, none⟩) hbl).trans (hd k hkl).2
        have hbw := Nat.lt_of_lt_of_le hbl hBx.size
        obtain ⟨m0, m1, m2, m3⟩ := HS3.out _ (List.getElem_mem hkl)
        obtain ⟨t, ht⟩ := Int.eq_ofNat_of_zero_le m0
        obtain ⟨o, ho⟩ := Int.eq_ofNat_of_zero_le m2
        have HTO := Lib.hid (show bcl (L.take (k + 1)) = bcl (L.take k) ++ [.int .i64 (t : Int), .int .i64 (o : Int)] from by
          rw [List.take_succ_eq_append_getElem hkl, bcl_append]
          show _ ++ [Value.int .i64 L[k].tx, Value.int .i64 L[k].vote] = _
          rw [ht, ho])
        have hln : (L.take k).length = k := by rw [List.length_take]; omega
        have hln2 : (L.take (k + 1)).length = k + 1 := by rw [List.length_take]; omega
        rw [ht] at q0 m1
        rw [ho] at q1 m3
        rw [Int.toNat_natCast] at q0 q1
        have m1 : t < 65536 := by have : ((t : Nat) : Int) < 65536 := m1; omega
        have m3 : o < 256 := by have : ((o : Nat) : Int) < 256 := m3; omega
        have wt : IntKind.i64.wrap (t : Int) = (t : Int) := by rw [IntKind.wrap_i64]; omega
        have wv : IntKind.i64.wrap (o : Int) = (o : Int) := by rw [IntKind.wrap_i64]; omega
        have hBs := hBx.size
        have hk50 : k ≤ 60 := by omega
        clear hd m0 m2 ht ho
        obtain ⟨sv, sc, hsl⟩ := slice_of hob
        subst hsl
        rw [hln] at hob ⊢
        obtain ⟨j, hj⟩ : ∃ j, 2 * k = j := ⟨_, rfl⟩
        rw [hj] at q0 q1 ⊢
        have hj1 : j + 1 < n := by omega
        have hjI : (j : Int) < (n : Int) := by omega
        have hj0 : (0 : Int) ≤ (j : Int) := by omega
        have e1 : IntKind.i64.wrap ((j : Int) + 1) = (j : Int) + 1 := by rw [IntKind.wrap_i64]; omega
        have e2 : ((j : Int) + 1).toNat = j + 1 := by omega
        have e3 : (0 : Int) ≤ (j : Int) + 1 := by omega
        have e4 : (j : Int) + 1 < (n : Int) := by omega
        have hj120 : j ≤ 120 := by omega
        have HJ := Lib.hid hj
        have HN := Lib.hid hN
        have HKL := Lib.hid hkl
        clear hj hN hkl hk
        go_upto_region 8 with fail
        refine start_ (n := 18) (S := fun w' => Below wo.heap.size wo w' ∧ (∀ b oo, b < wo.heap.size → w'.cell? ⟨b, oo, none⟩ = wo.cell? ⟨b, oo, none⟩)) (ds := [16]) #[false, false, false, false, false, false, false, false, false, false, false, false, false, false, false, false, false, false] (by kernel_rfl) rfl rfl ⟨(still_drew wo).1, (still_drew wo).2⟩ (fun hHeld => ?_)
        refine pure_ (i := 0) (N := some 26) (v := ?_) (a' := ?_) #[true, false, false, false, false, false, false, false, false, false, false, false, false, false, false, false, false, false] rfl rfl (by kernel_rfl) (fun _ _ _ h => h) (Or.inl ⟨by rfl, ?_⟩) ?_ ?_
        rotate_left
        · intro w'
          go_simp
          with_reducible rfl
        rotate_left
        · simp only [Act.put, List.setIfInBounds_toArray, List.set_cons_zero, List.set_cons_succ, i64_w, i32_w]
          rfl
        refine pure_ (i := 1) (N := some 27) (v := ?_) (a' := ?_) #[true, true, false, false, false, false, false, false, false, false, false, false, false, false, false, false, false, false] rfl rfl (by kernel_rfl) (fun _ _ _ h => h) (Or.inl ⟨by rfl, ?_⟩) ?_ ?_
        rotate_left
        · intro w'
          go_simp
          with_reducible rfl
        rotate_left
        · simp only [Act.put, List.setIfInBounds_toArray, List.set_cons_zero, List.set_cons_succ, i64_w, i32_w]
          rfl
        refine pure_ (i := 2) (N := some 28) (v := ?_) (a' := ?_) #[true, true, true, false, false, false, false, false, false, false, false, false, false, false, false, false, false, false] rfl rfl (by kernel_rfl) (fun _ _ _ h => h) (Or.inl ⟨by rfl, ?_⟩) ?_ ?_
        rotate_left
        · intro w'
          go_simp
          with_reducible rfl
        rotate_left
        · simp only [Act.put, List.setIfInBounds_toArray, List.set_cons_zero, List.set_cons_succ, i64_w, i32_w]
          rfl
        refine pure_ (i := 3) (N := some 29) (v := ?_) (a' := ?_) #[true, true, true, true, false, false, false, false, false, false, false, false, false, false, false, false, false, false] rfl rfl (by kernel_rfl) (fun _ _ _ h => h) (Or.inl ⟨by rfl, ?_⟩) ?_ ?_
        rotate_left
        · intro w'
          go_simp
          with_reducible rfl
        rotate_left
        · simp only [Act.put, List.setIfInBounds_toArray, List.set_cons_zero, List.set_cons_succ, i64_w, i32_w]
          rfl
        refine pure_ (i := 4) (N := some 30) (v := ?_) (a' := ?_) #[true, true, true, true, true, false, false, false, false, false, false, false, false, false, false, false, false, false] rfl rfl (by kernel_rfl) (fun _ _ _ h => h) (Or.inl ⟨by rfl, ?_⟩) ?_ ?_
        rotate_left
        · intro w'
          go_simp
          with_reducible rfl
        rotate_left
        · simp only [Act.put, List.setIfInBounds_toArray, List.set_cons_zero, List.set_cons_succ, i64_w, i32_w]
          rfl
        refine pure_ (i := 7) (N := some 33) (v := ?_) (a' := ?_) #[true, true, true, true, true, false, false, true, false, false, false, false, false, false, false, false, false, false] rfl rfl (by kernel_rfl) (fun _ _ _ h => h) (Or.inl ⟨by rfl, ?_⟩) ?_ ?_
        rotate_left
        · intro w'
          go_simp
          with_reducible rfl
        rotate_left
        · simp only [Act.put, List.setIfInBounds_toArray, List.set_cons_zero, List.set_cons_succ, i64_w, i32_w]
          rfl
        refine pure_ (i := 8) (N := some 34) (v := ?_) (a' := ?_) #[true, true, true, true, true, false, false, true, true, false, false, false, false, false, false, false, false, false] rfl rfl (by kernel_rfl) (fun _ _ _ h => h) (Or.inl ⟨by rfl, ?_⟩) ?_ ?_
        rotate_left
        · intro w'
          go_simp
          with_reducible rfl
        rotate_left
        · simp only [Act.put, List.setIfInBounds_toArray, List.set_cons_zero, List.set_cons_succ, i64_w, i32_w]
          rfl
        refine pure_ (i := 9) (N := some 35) (v := ?_) (a' := ?_) #[true, true, true, true, true, false, false, true, true, true, false, false, false, false, false, false, false, false] rfl rfl (by kernel_rfl) (fun _ _ _ h => h) (Or.inl ⟨by rfl, ?_⟩) ?_ ?_
        rotate_left
        · intro w'
          go_simp
          with_reducible rfl
        rotate_left
        · simp only [Act.put, List.setIfInBounds_toArray, List.set_cons_zero, List.set_cons_succ, i64_w, i32_w]
          rfl
        refine pure_ (i := 10) (N := some 36) (v := ?_) (a' := ?_) #[true, true, true, true, true, false, false, true, true, true, true, false, false, false, false, false, false, false] rfl rfl (by kernel_rfl) (fun _ _ _ h => h) (Or.inl ⟨by rfl, ?_⟩) ?_ ?_
        rotate_left
        · intro w'
          go_simp
          with_reducible rfl
        rotate_left
        · simp only [Act.put, List.setIfInBounds_toArray, List.set_cons_zero, List.set_cons_succ, i64_w, i32_w]
          rfl
        refine pure_ (i := 11) (N := some 37) (v := ?_) (a' := ?_) #[true, true, true, true, true, false, false, true, true, true, true, true, false, false, false, false, false, false] rfl rfl (by kernel_rfl) (fun _ _ _ h => h) (Or.inl ⟨by rfl, ?_⟩) ?_ ?_
        rotate_left
        · intro w'
          go_simp
          with_reducible rfl
        rotate_left
        · simp only [Act.put, List.setIfInBounds_toArray, List.set_cons_zero, List.set_cons_succ, i64_w, i32_w]
          rfl
        refine take_ (i := 5) (N := some 31) (v := ?_) (a' := ?_) #[true, true, true, true, true, true, false, true, true, true, true, true, false, false, false, false, false, false] rfl rfl (by kernel_rfl) (fun _ _ _ h => h) (Or.inl ⟨by rfl, ?_⟩) hHeld ?_ ?_
        rotate_left
        · rintro w' ⟨s0, s1⟩
          go_simp
          with_reducible rfl
        rotate_left
        · simp only [Act.put, List.setIfInBounds_toArray, List.set_cons_zero, List.set_cons_succ, i64_w, i32_w]
          rfl
        refine pure_ (i := 6) (N := some 32) (v := ?_) (a' := ?_) #[true, true, true, true, true, true, true, true, true, true, true, true, false, false, false, false, false, false] rfl rfl (by kernel_rfl) (fun _ _ _ h => h) (Or.inl ⟨by rfl, ?_⟩) ?_ ?_
        rotate_left
        · intro w'
          go_simp
          with_reducible rfl
        rotate_left
        · simp only [Act.put, List.setIfInBounds_toArray, List.set_cons_zero, List.set_cons_succ, i64_w, i32_w]
          rfl
        refine take_ (i := 12) (N := some 38) (v := ?_) (a' := ?_) #[true, true, true, true, true, true, true, true, true, true, true, true, true, false, false, false, false, false] rfl rfl (by kernel_rfl) (fun _ _ _ h => h) (Or.inl ⟨by rfl, ?_⟩) hHeld ?_ ?_
        rotate_left
        · rintro w' ⟨s0, s1⟩
          go_simp
          with_reducible rfl
        rotate_left
        · simp only [Act.put, List.setIfInBounds_toArray, List.set_cons_zero, List.set_cons_succ, i64_w, i32_w]
          rfl
        refine pure_ (i := 13) (N := some 39) (v := ?_) (a' := ?_) #[true, true, true, true, true, true, true, true, true, true, true, true, true, true, false, false, false, false] rfl rfl (by kernel_rfl) (fun _ _ _ h => h) (Or.inl ⟨by rfl, ?_⟩) ?_ ?_
        rotate_left
        · intro w'
          go_simp
          with_reducible rfl
        rotate_left
        · simp only [Act.put, List.setIfInBounds_toArray, List.set_cons_zero, List.set_cons_succ, i64_w, i32_w]
          rfl
        refine pure_ (i := 14) (N := some 40) (v := ?_) (a' := ?_) #[true, true, true, true, true, true, true, true, true, true, true, true, true, true, true, false, false, false] rfl rfl (by kernel_rfl) (fun _ _ _ h => h) (Or.inl ⟨by rfl, ?_⟩) ?_ ?_
        rotate_left
        · intro w'
          go_simp
          with_reducible rfl
        rotate_left
        · simp only [Act.put, List.setIfInBounds_toArray, List.set_cons_zero, List.set_cons_succ, i64_w, i32_w]
          rfl
        refine one_ (i := 15) (N := some 41) #[true, true, true, true, true, true, true, true, true, true, true, true, true, true, true, true, false, false] rfl rfl (by kernel_rfl) (by decide) (fun K hK => ?_)
        refine value_ (w1 := ?_) (v := ?_) (by rfl) rfl ?_ ?_
        rotate_left 2
        · go_simp
          constructor
          · rfl
          · rfl
        generalize hW5 : World.drew (World.alloc _ _) = w5
        have hb5 : Below wo.heap.size wo w5 := by rw [← hW5]; exact ((Below.refl _ wo).alloc (Nat.le_refl _) _).drew
        have hn5 : ∀ j v, [Value.int .i64 (t : Int), .int .i64 (o : Int)][j]? = some v → w5.cell? ((⟨wo.heap.size, 0, none⟩ : Addr).add j) = some v := by rw [← hW5]; exact cell_two_new wo _ _ _
        clear hW5
        refine hK.out _ _ ⟨hb5, fun b oo hlt => hb5.cell (p := ⟨b, oo, none⟩) hlt⟩ (fun hHeld => ?_)
        clear hK K
        refine norm_ (a' := ?_) ?_ ?_
        rotate_left
        · show Act.put _ (some 41) _ = _
          simp only [Act.put, List.setIfInBounds_toArray, List.set_cons_zero, List.set_cons_succ, i64_w, i32_w]
          rfl
        refine last_ (i := 16) (N := some 42) #[true, true, true, true, true, true, true, true, true, true, true, true, true, true, true, true, true, false] rfl rfl (by kernel_rfl) (by decide) (fun K hK => ?_)
        have hob5 : OwnRB w5 w2.heap.size _ _ := own_kept hob hHeld.1
        unfold OwnRB at hob5
        rw [hln] at hob5
        refine append_slice_ (by rfl) rfl (.tmp 26) (.tmp 41) 22 rfl w2.heap.size 42 i0 _ 2 16 Tryd.underlying22 hi hz0 hz1 hz2 rfl (by decide) (.slice sv k sc) _ _ (by rfl) hob5 ⟨wo.heap.size, 0, none⟩ 1 1 [.int .i64 (t : Int), .int .i64 (o : Int)] (by rfl) rfl hn5 (two_one _ _) (by unfold maxLen; omega) (by omega) (Nat.le_trans hBs hHeld.1.size) ?_
        intro v6 w6 hob6 hg6
        refine hK.out _ _ ?_
        clear hK K
        refine norm_ (a' := ?_) ?_ ?_
        rotate_left
        · show Act.put _ (some 42) _ = _
          simp only [Act.put, List.setIfInBounds_toArray, List.set_cons_zero, List.set_cons_succ, i64_w, i32_w]
          rfl
        refine pure_ (i := 17) (N := some 6) (v := ?_) (a' := ?_) #[true, true, true, true, true, true, true, true, true, true, true, true, true, true, true, true, true, true] rfl rfl (by kernel_rfl) (fun _ _ _ h => h) (Or.inl ⟨by rfl, ?_⟩) ?_ ?_
        rotate_left
        · intro w'
          go_simp
          with_reducible rfl
        rotate_left
        · simp only [Act.put, List.setIfInBounds_toArray, List.set_cons_zero, List.set_cons_succ, i64_w, i32_w]
          rfl
        refine done_ (by kernel_rfl) ?_

        have hBx5 := hBx.trans (hHeld.1.mono hBx.size)
        have hBx6 := hBx5.grown hg6 hBx5.size (fun j hj => (hob5.lt j hj).1)
        clear hHeld hob5 hg6 hn5 hb5 hob hBx hBx5 q0 q1
        have hwj : IntKind.i64.wrap ((j : Int) + 2) = (j : Int) + 2 := by rw [IntKind.wrap_i64]; omega
        go_wp2_with fail
        go_roundw
        case rel =>
          have h1 := HJ.out
          have h2 := HKL.out
          refine ⟨k + 1, by omega, by rw [show 2 * (k + 1) = j + 2 by omega]; go_num, ?_, hBx6⟩
          rw [OwnRB, HTO.out, hln2]
          exact hob6
        case measure => simp [intOf]; omega
      · obtain rfl : k = L.length := by omega
        rw [List.take_length] at hob
        have hbal := own_balT hob
        obtain ⟨sv, sc, hsl⟩ := slice_of hob
        subst hsl
        rw [hN]
        have hkI : ¬ (n : Int) < (n : Int) := by omega
        have HO := Lib.hid hob
        have HB2 := Lib.hid hB2
        have HR := rright_any (.slice sv L.length sc) L wo hbal
        clear hob hbal
        cases hr : rightL L with
        | true =>
          rw [hr] at HR
          have hT := HT.out
          rw [if_pos hr] at hT
          subst hT
          clear HT
          go_wp2_with fail
          refine HR.mono ?_
          rintro e w5 ⟨rfl, hb5⟩
          go_wp2_with fail
          go_ret2
          exact ⟨_, rfl, own_mono (own_kept HO.out hb5) HB2.out.size, HB2.out.trans ((hBx.trans (hb5.mono hBx.size)).mono HB2.out.size)⟩
        | false =>
          rw [hr] at HR
          have hT := HT.out
          rw [if_neg (by rw [hr]; decide)] at hT
          subst hT
          clear HT
          go_wp2_with fail
          refine HR.mono ?_
          rintro e w5 ⟨rfl, hb5⟩
          go_wp2_with fail
          go_ret2
          exact ⟨_, rfl, World.ownsRow_nil _ _ _ 2, HB2.out.trans ((hBx.trans (hb5.mono hBx.size)).mono HB2.out.size)⟩
end Go.Proofs.YtajnaiofagppeaaDoor.RefPack
