/- What note.Encode, note.Decode and the reference's answer. -/
import Derived.Test.YtbkkomknajgpdaaDoorNoteLaw
import Derived.Deep.Onto
namespace Go.Proofs.YtbkkomknajgpdaaDoor.NoteCode
open Go.RowKit CodeSpec SumSpec NoteSpec Flat CodeMem SumMem NoteNum Note
set_option linter.unusedSimpArgs false
set_option linter.unusedVariables false
set_option maxRecDepth 100000

def nshapeS : ByteArray := ⟨#[97, 97, 98, 99, 97, 97, 97, 97, 99, 116]⟩
theorem nshapeS_list : nshapeS.data.toList = nshape := rfl
theorem info3 : (Tryd.prog.info? 3).map (fun i => (i.zero, i.size, i.bytes)) = some (some (.int .i64 0), 1, 8) := by kernel_rfl
theorem idx9 (xs : List Int) (hl : xs.length = 9) (j : Nat) (x : Int) (hj : xs[j]? = some x) (w : World) :
    (Instr.index 51 (.agg (xs.map (Value.int .i64)).toArray) (.int .i64 j)).run Tryd.prog w = .ok (.int .i64 x) w := by
  obtain ⟨i0, hi, hz0, hz1, hz2⟩ := info_parts info3
  have hj9 : j < 9 := by
    by_cases h : j < 9
    · exact h
    · rw [List.getElem?_eq_none (by omega)] at hj; cases hj
  have hI : (0 : Int) ≤ (j : Int) ∧ (j : Int) < 9 := by omega
  simp [Instr.index, run_underlying Tryd.underlying51, asIntOf, hI, go_sem, part, isAgg, sizeOf, typeInfo, hi, hz1, Tryd.underlying3, run_underlying, hj]
  intro h
  omega
def numV (n : Nat) : V := ⟨n, noS⟩

set_option maxHeartbeats 2000000 in
theorem encode_own (k m tx ep v mk mf mt me : Int) (mc : ByteArray) (w : World) (q1 : 0 ≤ m) (q2 : 0 ≤ mf) (q3 : 0 ≤ mt) :
    Calls Tryd.prog 9 #[.agg #[.int .i64 k, .int .u8 m, .int .i64 tx, .int .i64 ep, .int .i64 v, .int .i64 mk, .int .u8 mf, .int .u8 mt, .int .i64 me, .string mc]] w (EncPost (nencR k m tx ep v mk mf mt me mc) w) := by
  obtain ⟨i0, hi, hz0, hz1, hz2⟩ := info_parts info48
  cases hr : rightB k m tx ep v mk mf mt me mc with
  | false =>
    have hL : nencR k m tx ep v mk mf mt me mc = ([], 2) := by rw [nencR, if_pos hr]
    rw [hL]
    go_enter Tryd.func9, Tryd.ntmps9
    go_wp2_with fail
    refine (right_any _ _ _ _ _ _ _ _ _ _ _).mono ?_
    rw [hr]
    rintro r v1 ⟨rfl, hb1⟩
    go_wp2_with fail
    go_ret2
    refine ⟨_, rfl, own_nil _ _, ?_⟩
    repeat (first | (with_reducible exact Below.refl _ _) | (with_reducible assumption) | (with_reducible refine bw_alloc ?_) | (with_reducible refine bw_drew ?_) | (with_reducible refine bw_drewN ?_) | (with_reducible refine bw_set ?_ (by first | (simp; done) | (dsimp only; omega))) | (with_reducible refine bw_via (by assumption) ?_))
  | true =>
    obtain ⟨b1, b2, b3, b4, b5, b6, b7, b8, b9, b10, b11, b12, b13, b14, b15, b16⟩ := note_bounds hr
    obtain ⟨k, rfl⟩ := Int.eq_ofNat_of_zero_le b1
    obtain ⟨m, rfl⟩ := Int.eq_ofNat_of_zero_le q1
    obtain ⟨tx, rfl⟩ := Int.eq_ofNat_of_zero_le b4
    obtain ⟨ep, rfl⟩ := Int.eq_ofNat_of_zero_le b6
    obtain ⟨v, rfl⟩ := Int.eq_ofNat_of_zero_le b8
    obtain ⟨mk, rfl⟩ := Int.eq_ofNat_of_zero_le b10
    obtain ⟨mf, rfl⟩ := Int.eq_ofNat_of_zero_le q2
    obtain ⟨mt, rfl⟩ := Int.eq_ofNat_of_zero_le q3
    obtain ⟨me, rfl⟩ := Int.eq_ofNat_of_zero_le b14
    have hL : nencR k m tx ep v mk mf mt me mc = (frame (nbytes k m tx ep v mk mf mt me mc), 0) := by rw [nencR, if_neg (by simp [hr])]; rfl
    rw [hL]
    go_enter Tryd.func9, Tryd.ntmps9
    go_wp2_with fail
    refine (right_any _ _ _ _ _ _ _ _ _ _ _).mono ?_
    rw [hr]
    rintro r v1 ⟨rfl, hb1⟩
    obtain ⟨c_hb1, f_hb1, z_hb1⟩ := bcell hb1; have z0_hb1 := z_hb1 (w.heap.size) (by first | omega | (simp only [World.size_alloc, World.size_setCell, World.size_drew, World.heap_drewN] <;> omega)); clear z_hb1
    have hB1 : Below w.heap.size w v1 := by repeat (first | (with_reducible exact Below.refl _ _) | (with_reducible assumption) | (with_reducible refine bw_alloc ?_) | (with_reducible refine bw_drew ?_) | (with_reducible refine bw_drewN ?_) | (with_reducible refine bw_set ?_ (by first | (simp; done) | (dsimp only; omega))) | (with_reducible refine bw_via (by assumption) ?_))
    have hmc : v1.cell? ⟨w.heap.size, 9, none⟩ = some (.string mc) := by rw [hb1.cell (p := ⟨w.heap.size, 9, none⟩) (by simp)]; simp
    have hlt : w.heap.size < v1.heap.size := by have := hb1.size; simp at this; omega
    go_wp2_with fail
    obtain ⟨ns, hns⟩ : ∃ ns : List Nat, ns = [k, m, tx, ep, v, mk, mf, mt, me] := ⟨_, rfl⟩
    have hn9 : ns.length = 9 := by rw [hns]; rfl
    have hnb : ∀ x ∈ ns, x < 4294967296 := by
      intro x hx
      rw [hns] at hx
      simp only [List.mem_cons, List.not_mem_nil, or_false] at hx
      rcases hx with rfl | rfl | rfl | rfl | rfl | rfl | rfl | rfl | rfl <;> omega
    have hnv : nvals k m tx ep v mk mf mt me mc = ns.map numV ++ [⟨0, mc⟩] := by rw [hns]; rfl
    have hidx : ∀ (j : Nat) (h : j < ns.length) (w : World), (Instr.index 51 (.agg #[.int .i64 (k : Int), .int .i64 (m : Int), .int .i64 (tx : Int), .int .i64 (ep : Int), .int .i64 (v : Int), .int .i64 (mk : Int), .int .i64 (mf : Int), .int .i64 (mt : Int), .int .i64 (me : Int)]) (.int .i64 j)).run Tryd.prog w = .ok (.int .i64 (ns[j] : Int)) w := by
      intro j h w
      have := idx9 (ns.map fun n : Nat => (n : Int)) (by rw [List.length_map, hn9]) j (ns[j] : Int) (by simp [h]) w
      rw [List.map_map] at this
      subst hns
      exact this
    have HIDX := Lib.hid hidx
    have HNB := Lib.hid hnb
    have HNV := Lib.hid hnv
    clear hidx hns hnb hnv
    go_loopw [4, 6, 38] (fun u x i wr => ∃ j : Nat, j ≤ 9 ∧ i = .int .i64 j ∧ Hid (OwnV wr v1.heap.size u ((ns.map numV).take j)) ∧ Below v1.heap.size v1 wr) (fun _ _ i _ => 9 - (intOf i).toNat)
    case atStart => exact ⟨0, by omega, rfl, Lib.hid (by simpa using ownv_nil v1 v1.heap.size), Below.refl _ _⟩
    case round =>
      obtain ⟨wo, h_wo⟩ : ∃ v : World, v = wr := ⟨_, rfl⟩; subst h_wo
      obtain ⟨j, hj, rfl, hob, hB⟩ := hrel
      by_cases hj9 : j = 9
      · subst hj9
        have hmc2 := (hB.cell (p := ⟨w.heap.size, 9, none⟩) hlt).trans hmc
        have hob' : wo.ownsRow v1.heap.size 54 2 u4 9 (vcells (ns.map numV)) := by
          have := hob.out
          rw [List.take_of_length_le (by rw [List.length_map]; omega)] at this
          rwa [OwnV, List.length_map, hn9] at this
        have HHO := Lib.hid hob'
        clear hob hob' hmc hb1 c_hb1 f_hb1 z0_hb1
        go_wp2_with (first | (at_builtin; refine wpList_append_own_at _ rfl _ _ 50 rfl v1.heap.size 54 i0 _ 2 24 Tryd.underlying50 hi hz0 hz1 hz2 rfl (by decide) _ 9 _ rfl (World.ownsRow.alloc HHO.out _) ⟨wo.heap.size, 0, none⟩ 1 1 [.int .u64 ((0 : Nat) : Int), .string mc] rfl rfl (cell_two_new _ _ _ _) (two_one _ _) (by unfold maxLen; decide) (by decide) (by have := hB.size; simp <;> omega) ?_; intro v7 w7 hob7 hg7 hnil7 hloc7))
        have hob8 : OwnV w7 v1.heap.size v7 (nvals k m tx ep v mk mf mt me mc) := by
          have hl2 : (ns.map numV ++ [(⟨0, mc⟩ : V)]).length = 9 + 1 := by rw [List.length_append, List.length_map, hn9]; rfl
          rw [HNV.out, OwnV, hl2, vcells_append]
          exact hob7
        have hB7 : Below v1.heap.size v1 w7 := (hB.alloc hB.size _).grown hg7 (by have := hB.size; simp <;> omega) (fun j hj => (HHO.out.lt j hj).1)
        have hBw : Below w.heap.size w w7 := hB1.trans (hB7.mono hB1.size)
        have hvals : IsVals w7 v7 (nvals k m tx ep v mk mf mt me mc) := by
          refine row_vals hob8 (by show 10 ≤ maxLen; unfold maxLen; decide) ?_
          intro x hx
          have h16 : mc.size ≤ maxLen := by unfold maxLen; omega
          have h00 : noS.size ≤ maxLen := by unfold maxLen; decide
          simp only [nvals, List.mem_cons, List.not_mem_nil, or_false] at hx
          rcases hx with rfl | rfl | rfl | rfl | rfl | rfl | rfl | rfl | rfl | rfl
          all_goals first | exact ⟨by dsimp only; omega, h00⟩ | exact ⟨by dsimp only; omega, h16⟩
        have hE := nenc (k := k) (m := m) (tx := tx) (ep := ep) (v := v) (mk := mk) (mf := mf) (mt := mt) (me := me) (mc := mc) (by omega) (by omega) (by omega) (by omega) (by omega) (by omega) (by omega) (by omega) (by omega) (by omega)
        have HX := encode_use nshapeS v7 (nvals k m tx ep v mk mf mt me mc) w7 (by unfold maxLen; decide) hvals
        rw [nshapeS_list, hE] at HX
        have hlen := nbytes_length (k := k) (m := m) (tx := tx) (ep := ep) (v := v) (mk := mk) (mf := mf) (mt := mt) (me := me) (mc := mc)
        refine HX.mono ?_
        generalize nbytes k m tx ep v mk mf mt me mc = o at *
        rintro r w8 ⟨a8, c8, rfl, x1, x2, x3, hb8⟩
        dsimp only at x1 x3
        have hB8 := hBw.trans (hb8.mono hBw.size)
        obtain ⟨b, off, rfl, hbb, hcc⟩ := x3 (by omega)
        clear HX hE hvals hob8 hB7 hBw hob7 hg7 hnil7 hloc7 hb8 hmc2 HHO HIDX HNB HNV hn9 hB
        have HFr := frame_own b off o c8 w8 hbb hcc x1 x2
        rw [frameR, if_neg (by omega)] at HFr
        clear hcc hlen
        go_wp2_with fail
        refine HFr.mono ?_
        rintro r w9 ⟨v9, rfl, y3, hb9⟩
        go_wp2_with fail
        go_ret2
        exact ⟨v9, rfl, World.ownsRow.mono y3 hB8.size, hB8.trans (hb9.mono hB8.size)⟩
      · have hjl : j < ns.length := by omega
        have hI : (j : Int) < 9 := by omega
        have hx := HIDX.out j hjl wo
        have hxb := HNB.out ns[j] (List.getElem_mem hjl)
        have htk : Hid ((ns.map numV).take (j + 1) = (ns.map numV).take j ++ [numV ns[j]]) := Lib.hid (by rw [List.take_succ_eq_append_getElem (by simpa using hjl)]; simp)
        have hlk : ((ns.map numV).take j).length = j := by rw [List.length_take, List.length_map]; omega
        have hob' : wo.ownsRow v1.heap.size 54 2 u4 j (vcells ((ns.map numV).take j)) := by
          have := hob.out
          rwa [OwnV, hlk] at this
        have HHO := Lib.hid hob'
        have HN9 := Lib.hid hn9
        clear hob hob' hlk hn9
        generalize ns[j] = x at *
        generalize (ns.map numV).take j = done at *
        clear hjl
        go_wp2_with (first | (at_builtin; refine wpList_append_own_at _ rfl _ _ 50 rfl v1.heap.size 54 i0 _ 2 24 Tryd.underlying50 hi hz0 hz1 hz2 rfl (by decide) _ j _ rfl (World.ownsRow.alloc HHO.out _) ⟨wo.heap.size, 0, none⟩ 1 1 [.int .u64 (x : Int), .string ⟨#[]⟩] rfl rfl (cell_two_new _ _ _ _) (two_one _ _) (by unfold maxLen; omega) (by omega) (by have := hB.size; simp <;> omega) ?_; intro v7 w7 hob7 hg7 hnil7 hloc7))
        go_roundw
        case rel =>
          refine ⟨j + 1, by omega, by go_num, Lib.hid ?_, (hB.alloc hB.size _).grown hg7 (by have := hB.size; simp <;> omega) (fun j hj => (HHO.out.lt j hj).1)⟩
          have hl2 : (done ++ [numV x]).length = j + 1 := by
            rw [← htk.out, List.length_take, List.length_map]
            have := HN9.out
            omega
          rw [htk.out, OwnV, hl2, vcells_append]
          exact hob7
        case measure => simp [intOf]; omega
theorem encode_any (k m tx ep v mk mf mt me : Int) (mc : ByteArray) (w : World) (q1 : 0 ≤ m) (q2 : 0 ≤ mf) (q3 : 0 ≤ mt) :
    Calls Tryd.prog 9 #[.agg #[.int .i64 k, .int .u8 m, .int .i64 tx, .int .i64 ep, .int .i64 v, .int .i64 mk, .int .u8 mf, .int .u8 mt, .int .i64 me, .string mc]] w (EncUse (nencR k m tx ep v mk mf mt me mc) w) := (encode_own k m tx ep v mk mf mt me mc w q1 q2 q3).mono fun _ _ h => enc_use h
end Go.Proofs.YtbkkomknajgpdaaDoor.NoteCode
