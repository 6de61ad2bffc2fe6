/- What Pack and Unpack of package agent answer. -/
import Derived.Test.YtajnaiofagppeaaDoorPairs
import Derived.Test.YtajnaiofagppeaaDoorCollect
import Derived.Test.YtajnaiofagppeaaDoorRepeat
namespace Go.Proofs.YtajnaiofagppeaaDoor.Pack
open Go Go.RowKit Go.Shelf CodeSpec AgentSpec Flat CodeMem Ballot SeqOver Collect Go.Proofs.YtajnaiofagppeaaDoorW.PrintLast
set_option linter.unusedSimpArgs false
set_option linter.unusedVariables false
set_option maxRecDepth 100000
def baS : ByteArray := ⟨#[98, 97]⟩
theorem rep_shape : ∀ n, Go.Lib.repeatL baS.data.toList n = shapeL n
  | 0 => rfl
  | n + 1 => by rw [Go.Lib.repeatL, rep_shape n]; rfl
theorem repeat_ba (n : Nat) (hn : n ≤ 200) (w : World) : Calls Tryd.prog 28 #[.string baS, .int .i64 (n : Int)] w fun e w' => ∃ s : ByteArray, e = .returned (.string s) ∧ s.data.toList = shapeL n ∧ Below w.heap.size w w' := by
  refine (Tryd.strings_Repeat baS n w (by omega) (by show 2 * n ≤ _; omega)).mono ?_
  rintro e w1 ⟨rfl, hb⟩
  exact ⟨_, rfl, by rw [rep_shape], hb⟩
theorem size_shape {s : ByteArray} {n : Nat} (h : s.data.toList = shapeL n) : s.size = 2 * n := by rw [← size_toList, h, shape_len]
/-- A row of ballots of one's own, read. -/
theorem own_bal {w : World} {B : Nat} {v : Value} {l : List Ba} (h : w.ownsRow B 49 2 v l.length (bcl l)) : IsBal w v l := by
  have hc := fun g => World.ownsRow.cells (g := g) h
  have hlt := h.lt
  rcases h.2 with ⟨h1, h2⟩ | ⟨g, cap, cur, h1, _, _, h3, h4, _⟩
  · exact ⟨none, 0, by rw [h1, h2], by omega, Nat.zero_le _, fun h => by omega⟩
  · subst h1
    refine ⟨_, cap, rfl, h3, h4, fun hl => ⟨g, 0, rfl, (hlt g rfl).2, fun i hi => ?_⟩⟩
    have hd : ∀ (l : List Ba) (i : Nat) (h : i < l.length), (bcl l)[i * 2]? = some (.int .i64 l[i].tx) ∧ (bcl l)[i * 2 + 1]? = some (.int .i64 l[i].vote) := by
      intro l
      induction l with
      | nil => intro i h; simp at h
      | cons b l ih =>
        intro i h
        cases i with
        | zero => exact ⟨rfl, rfl⟩
        | succ i =>
          have k := ih i (by simpa using h)
          rw [show (i + 1) * 2 = i * 2 + 1 + 1 by omega]
          exact k
    have k := hd l i hi
    refine ⟨?_, ?_⟩
    · have q := hc g rfl (i * 2) _ k.1
      rw [show ((⟨g, 0, none⟩ : Addr).add (i * 2)) = ⟨g, 0 + i * 2, none⟩ by unfold Addr.add; split <;> simp_all] at q
      exact q
    · have q := hc g rfl (i * 2 + 1) _ k.2
      rw [show ((⟨g, 0, none⟩ : Addr).add (i * 2 + 1)) = ⟨g, 0 + i * 2 + 1, none⟩ by unfold Addr.add; split <;> simp_all [Nat.add_assoc]] at q
      exact q
theorem own_mono {w : World} {B B' size n : Nat} {e : TypeId} {v : Value} {xs : List Value} (h : w.ownsRow B e size v n xs) (hb : B' ≤ B) : w.ownsRow B' e size v n xs :=
  ⟨h.1, h.2.imp id fun ⟨gg, cap, cur, e1, e2, e3⟩ => ⟨gg, cap, cur, e1, Nat.le_trans hb e2, e3⟩⟩
theorem own_kept {w w' : World} {B size n : Nat} {e : TypeId} {v : Value} {xs : List Value} (h : w.ownsRow B e size v n xs) (hb : Below w.heap.size w w') : w'.ownsRow B e size v n xs :=
  own_one h fun i hi => hb.block i (h.lt i hi).2
/-! ### Pack -/
def RelP (w : World) (l : List Ba) (v i : Value) (wr : World) : Prop := ∃ k, k ≤ l.length ∧ i = .int .i64 (k : Int) ∧ OwnV wr w.heap.size v (valsL (l.take k)) ∧ Below w.heap.size w wr
theorem vals_append (a b : List Ba) : valsL (a ++ b) = valsL a ++ valsL b := by simp [valsL]
theorem cell_four_new (w : World) (x y z u : Value) (t : TypeId) : ∀ j v, [x, y, z, u][j]? = some v → (w.alloc (.cells #[x, y, z, u] t)).cell? ((⟨w.heap.size, 0, none⟩ : Addr).add j) = some v := by
  intro j v hj
  match j, hj with
  | 0, hj => simp at hj; subst hj; simp [Addr.add]
  | 1, hj => simp at hj; subst hj; simp [Addr.add]
  | 2, hj => simp at hj; subst hj; simp [Addr.add]
  | 3, hj => simp at hj; subst hj; simp [Addr.add]
theorem four_one (n m : Int) (s t : ByteArray) : ∀ u ∈ [Value.int .u64 n, .string s, .int .u64 m, .string t], u.oneCell' = true := by
  intro u hu
  simp at hu
  rcases hu with rfl | rfl | rfl | rfl <;> rfl
theorem wrapn (n : Nat) (h : n < 18446744073709551616) : IntKind.u64.wrap (n : Int) = n := by simp [IntKind.wrap, IntKind.bits, IntKind.signed]; omega
def PackPost (T : List UInt8 × Int) (w : World) (e : Ending) (w' : World) : Prop := e = .returned (.tuple #[.string ⟨T.1.toArray⟩, .int .i64 T.2]) ∧ Below w.heap.size w w'
theorem vals_small (l : List Ba) (h : l.all mayB = true) : ∀ x ∈ valsL l, x.n < 18446744073709551616 ∧ x.s.size ≤ maxLen := by
  intro x hx
  rw [valsL, List.mem_flatMap] at hx
  obtain ⟨b, hb, hx⟩ := hx
  rw [List.all_eq_true] at h
  have k := h b hb
  simp only [mayB, decide_eq_true_eq] at k
  have z0 : noS.size ≤ maxLen := by unfold maxLen; decide
  simp only [List.mem_cons, List.not_mem_nil, or_false] at hx
  rcases hx with rfl | rfl
  · exact ⟨by dsimp only; omega, z0⟩
  · exact ⟨by dsimp only; omega, z0⟩
set_option maxHeartbeats 2000000 in
theorem pack_any (v : Value) (l : List Ba) (w : World) (h : IsBal w v l) : Calls Tryd.prog 10 #[v] w (PackPost (packL l) w) := by
  obtain ⟨a, cap, rfl, hlc, hcm, hcc⟩ := h
  have HIB : IsBal w (.slice a l.length cap) l := ⟨a, cap, rfl, hlc, hcm, hcc⟩
  have hcm2 := hcm
  unfold maxLen at hcm2
  cases hr : rightL l with
  | false =>
    have hT : packL l = ([], 2) := by rw [packL, if_pos hr]
    rw [hT]
    clear hT
    go_enter Tryd.func10, Tryd.ntmps10
    go_wp2_with fail
    refine (right_any _ l _ HIB).mono ?_
    rw [hr]
    rintro r v1 ⟨rfl, hb1⟩
    go_wp2_with fail
    go_ret2
    exact ⟨rfl, hb1⟩
  | true =>
    have hr2 := hr
    simp only [rightL, Bool.and_eq_true, decide_eq_true_eq] at hr2
    obtain ⟨⟨hall, _⟩, h50⟩ := hr2
    obtain ⟨i0, hi, hz0, hz1, hz2⟩ := info_parts info48
    have hT : packL l = (bytesL l, 0) := by rw [packL, if_neg (by rw [hr]; decide)]
    rw [hT]
    have HALL : Hid (∀ k (h : k < l.length), 0 ≤ l[k].tx ∧ l[k].tx < 1000 ∧ 1 ≤ l[k].vote ∧ l[k].vote ≤ 2) := Lib.hid fun k h => by
      have q := List.all_eq_true.1 hall _ (List.getElem_mem h)
      simp only [mayB, decide_eq_true_eq] at q
      omega
    have HENC := Lib.hid (enc_ballots hr)
    have HSM := Lib.hid (vals_small l hall)
    have HCC := Lib.hid hcc
    clear hall hcc hT
    go_enter Tryd.func10, Tryd.ntmps10
    go_wp2_with fail
    refine (right_any _ l _ HIB).mono ?_
    rw [hr]
    rintro r v1 ⟨rfl, hb1⟩
    clear HIB hr
    go_wp2_with fail
    go_loopw [4, 14] (fun v i wr => RelP w l v i wr) (fun _ i _ => l.length - (intOf i).toNat)
    case atStart => exact ⟨0, Nat.zero_le _, rfl, ownv_nil _ _, hb1⟩
    case round =>
      obtain ⟨wo, h_wo⟩ : ∃ v : World, v = wr := ⟨_, rfl⟩; subst h_wo
      obtain ⟨k, hk, rfl, hob, hB⟩ := hrel
      by_cases hkl : k < l.length
      · have hkI : (k : Int) < (l.length : Int) := by omega
        have hk0 : (0 : Int) ≤ (k : Int) := by omega
        obtain ⟨b, off, rfl, hbl, hd⟩ := HCC.out (by omega)
        obtain ⟨m0, m1, m2, m3⟩ := HALL.out k hkl
        obtain ⟨t, ht⟩ := Int.eq_ofNat_of_zero_le m0
        obtain ⟨o, ho⟩ := Int.eq_ofNat_of_zero_le (show 0 ≤ l[k].vote by omega)
        have q0 := (hB.cell (p := ⟨b, off + k * 2, none⟩) hbl).trans (hd k hkl).1
        have q1 := (hB.cell (p := ⟨b, off + k * 2 + 1, none⟩) hbl).trans (hd k hkl).2
        rw [ht] at q0
        rw [ho] at q1
        have wt := wrapn t (by omega)
        have wo' := wrapn o (by omega)
        have HB := Lib.hid hB
        have HTO := Lib.hid (show valsL (l.take (k + 1)) = valsL (l.take k) ++ [⟨t, noS⟩, ⟨o, noS⟩] from by
          rw [List.take_succ_eq_append_getElem hkl, vals_append]
          show _ ++ [(⟨l[k].tx.toNat, noS⟩ : V), ⟨l[k].vote.toNat, noS⟩] = _
          rw [ht, ho]
          rfl)
        have hln : (valsL (l.take k)).length = 2 * k := by rw [vals_len, List.length_take]; omega
        clear hd m0 m1 m2 m3 ht ho hB
        go_upto_region 7 with fail
        generalize hv4 : World.alloc wo _ = v4
        obtain ⟨hb4, hz4, hc4⟩ := alloc_facts hv4
        have p0 := hc4 0
        have p1 := hc4 1
        have hob4 : OwnV v4 w.heap.size _ _ := own_kept hob hb4
        have hB4 := HB.out.trans (hb4.mono HB.out.size)
        have HB4 := Lib.hid hB4
        have hBs := hB4.size
        clear hv4 hc4 hb4 q0 q1 hob hB4
        go_wp2_with (first | (at_builtin; refine wpList_append_own_at _ rfl _ _ 77 rfl w.heap.size 80 i0 _ 2 24 Tryd.underlying77 hi hz0 hz1 hz2 rfl (by decide) _ _ _ rfl (World.ownsRow.alloc hob4 _) ⟨v4.heap.size, 0, none⟩ 2 2 [.int .u64 (t : Int), .string ⟨#[]⟩, .int .u64 (o : Int), .string ⟨#[]⟩] rfl rfl (cell_four_new _ _ _ _ _ _) (four_one _ _ _ _) (by rw [hln]; unfold maxLen; omega) (by omega) (Nat.le_trans hBs (by simp)) ?_; intro v7 w7 hob7 hg7 hnil7 hloc7) | fail)
        go_roundw
        case rel =>
          refine ⟨k + 1, by omega, by go_num, ?_, (HB4.out.alloc hBs _).grown hg7 (Nat.le_trans hBs (by simp)) (fun j hj => (hob4.lt j hj).1)⟩
          rw [OwnV, HTO.out, vcells_append, List.length_append]
          exact hob7
        case measure => simp [intOf]; omega
      · have hkI : ¬ (k : Int) < (l.length : Int) := by omega
        have hkl2 : k = l.length := by omega
        rw [hkl2, List.take_length] at hob
        have hvs : IsVals wo _ (valsL l) := row_vals hob (by rw [vals_len]; unfold maxLen; omega) HSM.out
        clear hkl hkl2
        go_wp2_with fail
        refine (repeat_ba l.length (by omega) wo).mono ?_
        rintro e w5 ⟨s, rfl, hs, hb5⟩
        have hB5 := hB.trans (hb5.mono hB.size)
        have hss := size_shape hs
        have HS := Lib.hid hs
        clear hs
        go_wp2_with fail
        have HX := encode_use s _ (valsL l) w5 (by rw [hss]; unfold maxLen; omega) (vals_below hvs hb5)
        rw [HS.out, HENC.out] at HX
        refine HX.mono ?_
        rintro e w6 ⟨a6, cap6, rfl, h1, h2, h3, hb6⟩
        have hB6 := hB5.trans (hb6.mono hB5.size)
        have kc := conv_bytes cap6 h3 9 Tryd.underlying9
        clear HX
        go_wp2_with fail
        go_ret2
        exact ⟨rfl, hB6⟩
end Go.Proofs.YtajnaiofagppeaaDoor.Pack
