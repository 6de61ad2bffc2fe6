/- What the reference's Encode of a note answers. -/
import Derived.Test.YtbkkomknajgpdaaDoorNoteCode
namespace Go.Proofs.YtbkkomknajgpdaaDoor.NoteCode
open Go.RowKit CodeSpec SumSpec NoteSpec Flat CodeMem SumMem NoteNum Note
set_option linter.unusedSimpArgs false
set_option linter.unusedVariables false
set_option maxRecDepth 100000

set_option maxHeartbeats 400000 in
theorem refN_any (n : Int) (w : World) : Calls Tryd.prog 19 #[.int .u64 n] w fun e w' => e = .returned (.agg #[.int .u64 n, .string ⟨#[]⟩]) ∧ Below w.heap.size w w' := by
  go_enter Tryd.func19, Tryd.ntmps19
  go_wp2_with fail
  simp [bodyPost, results, Tryd.results19, go_sem, *]
  repeat (first | (with_reducible exact Below.refl _ _) | (with_reducible assumption) | (with_reducible refine bw_alloc ?_) | (with_reducible refine bw_drew ?_) | (with_reducible refine bw_drewN ?_) | (with_reducible refine bw_set ?_ (by first | (simp; done) | (dsimp only; omega))) | (with_reducible refine bw_via (by assumption) ?_))
set_option maxHeartbeats 400000 in
theorem refT_any (s : ByteArray) (w : World) : Calls Tryd.prog 21 #[.string s] w fun e w' => e = .returned (.agg #[.int .u64 0, .string s]) ∧ Below w.heap.size w w' := by
  go_enter Tryd.func21, Tryd.ntmps21
  go_wp2_with fail
  simp [bodyPost, results, Tryd.results21, go_sem, *]
  repeat (first | (with_reducible exact Below.refl _ _) | (with_reducible assumption) | (with_reducible refine bw_alloc ?_) | (with_reducible refine bw_drew ?_) | (with_reducible refine bw_drewN ?_) | (with_reducible refine bw_set ?_ (by first | (simp; done) | (dsimp only; omega))) | (with_reducible refine bw_via (by assumption) ?_))
theorem ownr_below {w w' : World} {B : Nat} {v : Value} {l : List V} (h : OwnR w B v l) (hb : Below w.heap.size w w') : OwnR w' B v l :=
  World.ownsRow.kept h (row := none) (grown_below hb) (by cases v.ownBlock <;> simp)

set_option maxHeartbeats 2000000 in
theorem rencode_any (k m tx ep v mk mf mt me : Int) (mc : ByteArray) (w : World) (q1 : 0 ≤ m) (q2 : 0 ≤ mf) (q3 : 0 ≤ mt) :
    Calls Tryd.prog 11 #[.agg #[.int .i64 k, .int .u8 m, .int .i64 tx, .int .i64 ep, .int .i64 v, .int .i64 mk, .int .u8 mf, .int .u8 mt, .int .i64 me, .string mc]] w (EncUse (nencR k m tx ep v mk mf mt me mc) w) := by
  obtain ⟨i0, hi, hz0, hz1, hz2⟩ := info_parts info50
  cases hr : rightB k m tx ep v mk mf mt me mc with
  | false =>
    have hL : nencR k m tx ep v mk mf mt me mc = ([], 2) := by rw [nencR, if_pos hr]
    rw [hL]
    go_enter Tryd.func11, Tryd.ntmps11
    go_wp2_with fail
    refine (right_ref _ _ _ _ _ _ _ _ _ _ _).mono ?_
    rw [hr]
    rintro r v1 ⟨rfl, hb1⟩
    go_wp2_with fail
    go_ret2
    refine ⟨none, 0, rfl, Nat.le_refl _, by unfold maxLen; decide, fun h => absurd h (by simp), ?_⟩
    repeat (first | (with_reducible exact Below.refl _ _) | (with_reducible assumption) | (with_reducible refine bw_alloc ?_) | (with_reducible refine bw_drew ?_) | (with_reducible refine bw_drewN ?_) | (with_reducible refine bw_set ?_ (by first | (simp; done) | (dsimp only; omega))) | (with_reducible refine bw_via (by assumption) ?_))
  | true =>
    obtain ⟨b1, b2, b3, b4, b5, b6, b7, b8, b9, b10, b11, b12, b13, b14, b15, b16⟩ := note_bounds hr
    obtain ⟨k, rfl⟩ := Int.eq_ofNat_of_zero_le b1
    obtain ⟨m, rfl⟩ := Int.eq_ofNat_of_zero_le q1
    obtain ⟨tx, rfl⟩ := Int.eq_ofNat_of_zero_le b4
    obtain ⟨ep, rfl⟩ := Int.eq_ofNat_of_zero_le b6
    obtain ⟨v, rfl⟩ := Int.eq_ofNat_of_zero_le b8
    obtain ⟨mk, rfl⟩ := Int.eq_ofNat_of_zero_le b10
    obtain ⟨mf, rfl⟩ := Int.eq_ofNat_of_zero_le q2
    obtain ⟨mt, rfl⟩ := Int.eq_ofNat_of_zero_le q3
    obtain ⟨me, rfl⟩ := Int.eq_ofNat_of_zero_le b14
    have hL : nencR k m tx ep v mk mf mt me mc = (frame (nbytes k m tx ep v mk mf mt me mc), 0) := by rw [nencR, if_neg (by simp [hr])]; rfl
    rw [hL]
    go_enter Tryd.func11, Tryd.ntmps11
    go_wp2_with fail
    refine (right_ref _ _ _ _ _ _ _ _ _ _ _).mono ?_
    rw [hr]
    rintro r v1 ⟨rfl, hb1⟩
    obtain ⟨c_hb1, f_hb1, z_hb1⟩ := bcell hb1; have z0_hb1 := z_hb1 (w.heap.size) (by first | omega | (simp only [World.size_alloc, World.size_setCell, World.size_drew, World.heap_drewN] <;> omega)); clear z_hb1
    have hB1 : Below w.heap.size w v1 := by repeat (first | (with_reducible exact Below.refl _ _) | (with_reducible assumption) | (with_reducible refine bw_alloc ?_) | (with_reducible refine bw_drew ?_) | (with_reducible refine bw_drewN ?_) | (with_reducible refine bw_set ?_ (by first | (simp; done) | (dsimp only; omega))) | (with_reducible refine bw_via (by assumption) ?_))
    go_wp2_with fail
    obtain ⟨ns, hns⟩ : ∃ ns : List Nat, ns = [k, m, tx, ep, v, mk, mf, mt, me] := ⟨_, rfl⟩
    have hn9 : ns.length = 9 := by rw [hns]; rfl
    generalize hW9 : World.alloc (World.alloc v1 _) _ = W9
    have hlt : v1.heap.size + 1 < W9.heap.size := by rw [← hW9]; simp
    have hB9 : Below v1.heap.size v1 W9 := by rw [← hW9]; exact ((Below.refl _ _).alloc (Nat.le_refl _) _).alloc (by simp) _
    have hmc : W9.cell? ⟨v1.heap.size, 4, none⟩ = some (.string mc) := by rw [← hW9]; simp [go_sem]
    have w64 : ∀ x : Nat, x < 4294967296 → wrap64 (x : Int) = x := fun x h => by unfold wrap64; omega
    have hcell : ∀ (j : Nat) (h : j < ns.length), W9.cell? ⟨v1.heap.size + 1, j, none⟩ = some (.int .i64 (ns[j] : Int)) := by
      intro j h
      subst hns
      have hj : j < 9 := h
      rw [← hW9]
      rcases (by omega : j = 0 ∨ j = 1 ∨ j = 2 ∨ j = 3 ∨ j = 4 ∨ j = 5 ∨ j = 6 ∨ j = 7 ∨ j = 8) with rfl | rfl | rfl | rfl | rfl | rfl | rfl | rfl | rfl <;> simp [go_sem]
    have hnb : ∀ x ∈ ns, x < 4294967296 := by
      intro x hx
      rw [hns] at hx
      simp only [List.mem_cons, List.not_mem_nil, or_false] at hx
      rcases hx with rfl | rfl | rfl | rfl | rfl | rfl | rfl | rfl | rfl <;> omega
    have hnv : nvals k m tx ep v mk mf mt me mc = ns.map numV ++ [⟨0, mc⟩] := by rw [hns]; rfl
    have HC := Lib.hid hcell
    have HNB := Lib.hid hnb
    have HNV := Lib.hid hnv
    have HB9 : Below w.heap.size w W9 := hB1.trans (hB9.mono hB1.size)
    clear hns hnb hnv hcell hW9 w64 hB9 hb1 c_hb1 f_hb1 z0_hb1
    generalize hg : v1.heap.size = g at *
    clear hg
    go_loopw [6, 7] (fun u i wr => ∃ j : Nat, j ≤ 9 ∧ i = .int .i64 j ∧ Hid (OwnR wr W9.heap.size u ((ns.map numV).take j)) ∧ Below W9.heap.size W9 wr) (fun _ i _ => 9 - (intOf i).toNat)
    case atStart => exact ⟨0, by omega, rfl, Lib.hid (by simpa using ownr_nil W9 W9.heap.size), Below.refl _ _⟩
    case round =>
      obtain ⟨wo, h_wo⟩ : ∃ v : World, v = wr := ⟨_, rfl⟩; subst h_wo
      obtain ⟨j, hj, rfl, hob, hB⟩ := hrel
      by_cases hj9 : j = 9
      · subst hj9
        have hmc2 := (hB.cell (p := ⟨g, 4, none⟩) (by show g < _; omega)).trans hmc
        have hob' : wo.ownsRow W9.heap.size 59 2 u6 9 (vcells (ns.map numV)) := by
          have := hob.out
          rw [List.take_of_length_le (by rw [List.length_map]; omega)] at this
          rwa [OwnR, List.length_map, hn9] at this
        have HHO := Lib.hid hob'
        clear hob hob' hmc
        go_wp2_with fail
        refine (refT_any _ _).mono ?_
        rintro r v2 ⟨rfl, hb2⟩
        have HHO2 : Hid (v2.ownsRow W9.heap.size 59 2 u6 9 (vcells (ns.map numV))) := Lib.hid (World.ownsRow.kept HHO.out (row := none) (grown_below hb2) (by cases u6.ownBlock <;> simp))
        have hs2 : W9.heap.size ≤ v2.heap.size := Nat.le_trans hB.size hb2.size
        go_wp2_with (first | (at_builtin; refine wpList_append_own_at _ rfl _ _ 58 rfl W9.heap.size 59 i0 _ 2 24 Tryd.underlying58 hi hz0 hz1 hz2 rfl (by decide) _ 9 _ rfl (World.ownsRow.alloc HHO2.out _) ⟨v2.heap.size, 0, none⟩ 1 1 [.int .u64 ((0 : Nat) : Int), .string mc] rfl rfl (cell_two_new _ _ _ _) (two_one _ _) (by unfold maxLen; decide) (by decide) (by simp <;> omega) ?_; intro v7 w7 hob7 hg7 hnil7 hloc7))
        have hob8 : OwnR w7 W9.heap.size v7 (nvals k m tx ep v mk mf mt me mc) := by
          have hl2 : (ns.map numV ++ [(⟨0, mc⟩ : V)]).length = 9 + 1 := by rw [List.length_append, List.length_map, hn9]; rfl
          rw [HNV.out, OwnR, hl2, vcells_append]
          exact hob7
        have hB7 : Below W9.heap.size W9 w7 := ((hB.trans (hb2.mono hB.size)).alloc hs2 _).grown hg7 (by simp <;> omega) (fun j hj => (HHO2.out.lt j hj).1)
        have hBw : Below w.heap.size w w7 := HB9.trans (hB7.mono HB9.size)
        have hvals : IsVals w7 v7 (nvals k m tx ep v mk mf mt me mc) := by
          refine row_vals hob8 (by show 10 ≤ maxLen; unfold maxLen; decide) ?_
          intro x hx
          have h16 : mc.size ≤ maxLen := by unfold maxLen; omega
          have h00 : noS.size ≤ maxLen := by unfold maxLen; decide
          simp only [nvals, List.mem_cons, List.not_mem_nil, or_false] at hx
          rcases hx with rfl | rfl | rfl | rfl | rfl | rfl | rfl | rfl | rfl | rfl
          all_goals first | exact ⟨by dsimp only; omega, h00⟩ | exact ⟨by dsimp only; omega, h16⟩
        have hE := nenc (k := k) (m := m) (tx := tx) (ep := ep) (v := v) (mk := mk) (mf := mf) (mt := mt) (me := me) (mc := mc) (by omega) (by omega) (by omega) (by omega) (by omega) (by omega) (by omega) (by omega) (by omega) (by omega)
        have HX := rencode_use nshapeS v7 (nvals k m tx ep v mk mf mt me mc) w7 (by unfold maxLen; decide) hvals
        rw [nshapeS_list, hE] at HX
        have hlen := nbytes_length (k := k) (m := m) (tx := tx) (ep := ep) (v := v) (mk := mk) (mf := mf) (mt := mt) (me := me) (mc := mc)
        refine HX.mono ?_
        generalize nbytes k m tx ep v mk mf mt me mc = o at *
        rintro r w8 ⟨a8, c8, rfl, x1, x2, x3, hb8⟩
        dsimp only at x1 x3
        have hB8 := hBw.trans (hb8.mono hBw.size)
        obtain ⟨b, off, rfl, hbb, hcc⟩ := x3 (by omega)
        clear HX hE hvals hob8 hB7 hBw hob7 hg7 hnil7 hloc7 hb8 hmc2 HHO HHO2 HNB HNV hn9 hB hb2 hs2 HC
        have HFr := rframe_any b off o c8 w8 hbb hcc x1 x2
        rw [frameR, if_neg (by omega)] at HFr
        clear hcc hlen
        go_wp2_with fail
        refine HFr.mono ?_
        rintro r w9 ⟨a9, c9, rfl, y1, y2, y3, hb9⟩
        go_wp2_with fail
        go_ret2
        exact ⟨a9, c9, rfl, y1, y2, y3, hB8.trans (hb9.mono hB8.size)⟩
      · have hjl : j < ns.length := by omega
        have hI : (j : Int) < 9 := by omega
        have hx := (hB.cell (p := ⟨g + 1, j, none⟩) (by show g + 1 < _; omega)).trans (HC.out j hjl)
        have hxb := HNB.out ns[j] (List.getElem_mem hjl)
        have htk : Hid ((ns.map numV).take (j + 1) = (ns.map numV).take j ++ [numV ns[j]]) := Lib.hid (by rw [List.take_succ_eq_append_getElem (by simpa using hjl)]; simp)
        have hlk : ((ns.map numV).take j).length = j := by rw [List.length_take, List.length_map]; omega
        have hob' : wo.ownsRow W9.heap.size 59 2 u6 j (vcells ((ns.map numV).take j)) := by
          have := hob.out
          rwa [OwnR, hlk] at this
        have HHO := Lib.hid hob'
        have HN9 := Lib.hid hn9
        clear hob hob' hlk hn9
        generalize ns[j] = x at *
        generalize (ns.map numV).take j = done at *
        clear hjl
        go_wp2_with fail
        refine (refN_any _ _).mono ?_
        rintro r v2 ⟨rfl, hb2⟩
        have HHO2 : Hid (v2.ownsRow W9.heap.size 59 2 u6 j (vcells done)) := Lib.hid (World.ownsRow.kept HHO.out (row := none) (grown_below hb2) (by cases u6.ownBlock <;> simp))
        have hs2 : W9.heap.size ≤ v2.heap.size := Nat.le_trans hB.size hb2.size
        go_wp2_with (first | (at_builtin; refine wpList_append_own_at _ rfl _ _ 58 rfl W9.heap.size 59 i0 _ 2 24 Tryd.underlying58 hi hz0 hz1 hz2 rfl (by decide) _ j _ rfl (World.ownsRow.alloc HHO2.out _) ⟨v2.heap.size, 0, none⟩ 1 1 [.int .u64 (x : Int), .string ⟨#[]⟩] rfl rfl (cell_two_new _ _ _ _) (two_one _ _) (by unfold maxLen; omega) (by omega) (by simp <;> omega) ?_; intro v7 w7 hob7 hg7 hnil7 hloc7))
        go_roundw
        case rel =>
          refine ⟨j + 1, by omega, by go_num, Lib.hid ?_, ((hB.trans (hb2.mono hB.size)).alloc hs2 _).grown hg7 (by simp <;> omega) (fun j hj => (HHO2.out.lt j hj).1)⟩
          have hl2 : (done ++ [numV x]).length = j + 1 := by
            rw [← htk.out, List.length_take, List.length_map]
            have := HN9.out
            omega
          rw [htk.out, OwnR, hl2, vcells_append]
          exact hob7
        case measure => simp [intOf]; omega
end Go.Proofs.YtbkkomknajgpdaaDoor.NoteCode
