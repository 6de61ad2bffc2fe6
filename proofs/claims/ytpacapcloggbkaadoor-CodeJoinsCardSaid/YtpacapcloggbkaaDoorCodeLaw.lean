/- What the statements' own small functions answer: few, Theirs, Ours, Same, and the signs. -/
import Derived.Test.YtpacapcloggbkaaDoorCodeRDec
namespace Go.Proofs.YtpacapcloggbkaaDoor.CodeMem
open Go.RowKit CodeSpec Flat
set_option linter.unusedSimpArgs false
set_option linter.unusedVariables false

theorem vals_below {w w' : World} {v : Value} {vs : List V} (h : IsVals w v vs) (hb : Below w.heap.size w w') : IsVals w' v vs := by
  obtain ⟨a, cap, hv, hm, hall, hc⟩ := h
  refine ⟨a, cap, hv, hm, hall, fun hl => ?_⟩
  obtain ⟨b, off, ha, hb2, hd⟩ := hc hl
  exact ⟨b, off, ha, Nat.lt_of_lt_of_le hb2 hb.size, fun i hi => ⟨(hb.cell (p := ⟨b, _, none⟩) hb2).trans (hd i hi).1, (hb.cell (p := ⟨b, _, none⟩) hb2).trans (hd i hi).2⟩⟩

def FewPost (vs : List V) (w : World) (e : Ending) (w' : World) : Prop := ∃ b, e = .returned (.bool b) ∧ (b = true → vs.length ≤ 110) ∧ Below w.heap.size w w'
def TheirsPost (vs : List V) (w : World) (e : Ending) (w' : World) : Prop := ∃ u, e = .returned u ∧ OwnV w' w.heap.size u vs ∧ Below w.heap.size w w'
def OursPost (vs : List V) (w : World) (e : Ending) (w' : World) : Prop := ∃ u, e = .returned u ∧ OwnR w' w.heap.size u vs ∧ Below w.heap.size w w'
set_option maxHeartbeats 1000000 in
theorem few_any (v : Value) (vs : List V) (w : World) (hv : IsVals w v vs) :
    Calls Tryd.prog 11 #[v] w (FewPost vs w) := by
  obtain ⟨a, cap, rfl, hmax, hall, hcells⟩ := hv
  have hm := hmax
  unfold maxLen at hm
  go_enter Tryd.func11, Tryd.ntmps11
  go_wp2
  go_loopw [3, 8] (fun z i wr => ∃ (k : Nat) (q : Int), k ≤ vs.length ∧ i = .int .i64 k ∧ z = .int .i64 q ∧ Below w.heap.size w wr) (fun _ i _ => vs.length - (intOf i).toNat)
  case atStart => exact ⟨0, 0, Nat.zero_le _, rfl, rfl, Below.refl _ _⟩
  case round =>
    obtain ⟨wo, h_wo⟩ : ∃ v : World, v = wr := ⟨_, rfl⟩; subst h_wo
    obtain ⟨k, q, hk, rfl, rfl, hB⟩ := hrel
    by_cases hkl : k < vs.length
    · obtain ⟨b0, off, hab, hbw, hcs⟩ := hcells (by omega)
      subst hab
      obtain ⟨d0, d1⟩ := hcs k hkl
      rw [← hB.cell (p := ⟨b0, _, none⟩) hbw] at d0 d1
      have hkI : (k : Int) < (vs.length : Int) := by omega
      have hbr : b0 < wo.heap.size := Nat.lt_of_lt_of_le hbw hB.size
      clear hcs hcells hall
      generalize vs[k] = x at *
      obtain ⟨n, t⟩ := x
      simp only at d0 d1
      go_wp2
      go_roundw
      case rel => exact ⟨k + 1, _, by omega, by go_num, rfl, hB.alloc hB.size _⟩
      case measure => simp [intOf]; omega
    · have hkI : ¬ (k : Int) < (vs.length : Int) := by omega
      by_cases h110 : vs.length ≤ 110
      · have h110I : (vs.length : Int) ≤ 110 := by omega
        go_wp2
        all_goals go_ret
        all_goals exact ⟨_, rfl, fun _ => h110, hB⟩
      · have h110I : ¬ (vs.length : Int) ≤ 110 := by omega
        go_wp2
        go_ret
        exact ⟨false, rfl, (fun h => by cases h), hB⟩

set_option maxHeartbeats 1000000 in
theorem theirs_any (v : Value) (vs : List V) (w : World) (hv : IsVals w v vs) (h110 : vs.length ≤ 1000) :
    Calls Tryd.prog 13 #[v] w (TheirsPost vs w) := by
  obtain ⟨a, cap, rfl, hmax, hall, hcells⟩ := hv
  obtain ⟨i0, hi, hz0, hz1, hz2⟩ := info_parts info48
  go_enter Tryd.func13, Tryd.ntmps13
  go_wp2
  go_loopw [3, 8] (fun u i wr => ∃ k : Nat, k ≤ vs.length ∧ i = .int .i64 k ∧ Hid (OwnV wr w.heap.size u (vs.take k)) ∧ Below w.heap.size w wr) (fun _ i _ => vs.length - (intOf i).toNat)
  case atStart => exact ⟨0, Nat.zero_le _, rfl, Lib.hid (by simpa using ownv_nil w w.heap.size), Below.refl _ _⟩
  case round =>
    obtain ⟨wo, h_wo⟩ : ∃ v : World, v = wr := ⟨_, rfl⟩; subst h_wo
    obtain ⟨k, hk, rfl, hob, hB⟩ := hrel
    by_cases hkl : k < vs.length
    · obtain ⟨b0, off, hab, hbw, hcs⟩ := hcells (by omega)
      subst hab
      obtain ⟨d0, d1⟩ := hcs k hkl
      rw [← hB.cell (p := ⟨b0, _, none⟩) hbw] at d0 d1
      have hkI : (k : Int) < (vs.length : Int) := by omega
      have hbr : b0 < wo.heap.size := Nat.lt_of_lt_of_le hbw hB.size
      have htk : Hid (vs.take (k + 1) = vs.take k ++ [vs[k]]) := Lib.hid (List.take_succ_eq_append_getElem hkl)
      have hlk : (vs.take k).length = k := by rw [List.length_take]; omega
      have hob' : wo.ownsRow w.heap.size 48 2 u3 k (vcells (vs.take k)) := by
        have := hob.out
        rwa [OwnV, hlk] at this
      have HHO := Lib.hid hob'
      clear hcs hcells hall hob hlk
      generalize vs[k] = x at *
      generalize vs.take k = done at *
      obtain ⟨n, t⟩ := x
      simp only at d0 d1
      go_wp2_with (first | (at_builtin; refine wpList_append_own_at _ rfl _ _ 29 rfl w.heap.size 48 i0 _ 2 24 Tryd.underlying29 hi hz0 hz1 hz2 rfl (by decide) _ _ _ rfl (World.ownsRow.alloc (World.ownsRow.alloc HHO.out _) _) ⟨wo.heap.size + 1, 0, none⟩ 1 1 [.int .u64 (n : Int), .string t] rfl rfl (by have := cell_two_new (wo.alloc (.cells #[.int .u64 (n : Int), .string t] 50)) (.int .u64 (n : Int)) (.string t) 48; simpa using this) (two_one _ _) (by unfold maxLen; omega) (by omega) (by have := hB.size; simp <;> omega) ?_; intro v7 w7 hob7 hg7 hnil7 hloc7) | fail)
      go_roundw
      case rel =>
        refine ⟨k + 1, by omega, by go_num, Lib.hid ?_, ((hB.alloc hB.size _).alloc (by have := hB.size; simp <;> omega) _).grown hg7 (by have := hB.size; simp <;> omega) (fun j hj => (HHO.out.lt j hj).1)⟩
        have hl2 : (done ++ [(⟨n, t⟩ : V)]).length = k + 1 := by
          rw [← htk.out, List.length_take]; omega
        rw [htk.out, OwnV, hl2, vcells_append]
        exact hob7
      case measure => simp [intOf]; omega
    · have hkI : ¬ (k : Int) < (vs.length : Int) := by omega
      have hob' : OwnV wo w.heap.size u3 vs := by
        have := hob.out
        rwa [List.take_of_length_le (by omega)] at this
      go_wp2
      go_ret
      exact ⟨_, rfl, hob', hB⟩

set_option maxHeartbeats 1000000 in
theorem ours_any (v : Value) (vs : List V) (w : World) (hv : IsVals w v vs) (h110 : vs.length ≤ 1000) :
    Calls Tryd.prog 18 #[v] w (OursPost vs w) := by
  obtain ⟨a, cap, rfl, hmax, hall, hcells⟩ := hv
  obtain ⟨i0, hi, hz0, hz1, hz2⟩ := info_parts info50
  go_enter Tryd.func18, Tryd.ntmps18
  go_wp2
  go_loopw [3, 8] (fun u i wr => ∃ k : Nat, k ≤ vs.length ∧ i = .int .i64 k ∧ Hid (OwnR wr w.heap.size u (vs.take k)) ∧ Below w.heap.size w wr) (fun _ i _ => vs.length - (intOf i).toNat)
  case atStart => exact ⟨0, Nat.zero_le _, rfl, Lib.hid (by simpa using ownr_nil w w.heap.size), Below.refl _ _⟩
  case round =>
    obtain ⟨wo, h_wo⟩ : ∃ v : World, v = wr := ⟨_, rfl⟩; subst h_wo
    obtain ⟨k, hk, rfl, hob, hB⟩ := hrel
    by_cases hkl : k < vs.length
    · obtain ⟨b0, off, hab, hbw, hcs⟩ := hcells (by omega)
      subst hab
      obtain ⟨d0, d1⟩ := hcs k hkl
      rw [← hB.cell (p := ⟨b0, _, none⟩) hbw] at d0 d1
      have hkI : (k : Int) < (vs.length : Int) := by omega
      have hbr : b0 < wo.heap.size := Nat.lt_of_lt_of_le hbw hB.size
      have htk : Hid (vs.take (k + 1) = vs.take k ++ [vs[k]]) := Lib.hid (List.take_succ_eq_append_getElem hkl)
      have hlk : (vs.take k).length = k := by rw [List.length_take]; omega
      have hob' : wo.ownsRow w.heap.size 50 2 u3 k (vcells (vs.take k)) := by
        have := hob.out
        rwa [OwnR, hlk] at this
      have HHO := Lib.hid hob'
      clear hcs hcells hall hob hlk
      generalize vs[k] = x at *
      generalize vs.take k = done at *
      obtain ⟨n, t⟩ := x
      simp only at d0 d1
      go_wp2_with (first | (at_builtin; refine wpList_append_own_at _ rfl _ _ 22 rfl w.heap.size 50 i0 _ 2 24 Tryd.underlying22 hi hz0 hz1 hz2 rfl (by decide) _ _ _ rfl (World.ownsRow.alloc (World.ownsRow.alloc HHO.out _) _) ⟨wo.heap.size + 1, 0, none⟩ 1 1 [.int .u64 (n : Int), .string t] rfl rfl (by have := cell_two_new (wo.alloc (.cells #[.int .u64 (n : Int), .string t] 48)) (.int .u64 (n : Int)) (.string t) 50; simpa using this) (two_one _ _) (by unfold maxLen; omega) (by omega) (by have := hB.size; simp <;> omega) ?_; intro v7 w7 hob7 hg7 hnil7 hloc7) | fail)
      go_roundw
      case rel =>
        refine ⟨k + 1, by omega, by go_num, Lib.hid ?_, ((hB.alloc hB.size _).alloc (by have := hB.size; simp <;> omega) _).grown hg7 (by have := hB.size; simp <;> omega) (fun j hj => (HHO.out.lt j hj).1)⟩
        have hl2 : (done ++ [(⟨n, t⟩ : V)]).length = k + 1 := by
          rw [← htk.out, List.length_take]; omega
        rw [htk.out, OwnR, hl2, vcells_append]
        exact hob7
      case measure => simp [intOf]; omega
    · have hkI : ¬ (k : Int) < (vs.length : Int) := by omega
      have hob' : OwnR wo w.heap.size u3 vs := by
        have := hob.out
        rwa [List.take_of_length_le (by omega)] at this
      go_wp2
      go_ret
      exact ⟨_, rfl, hob', hB⟩
end Go.Proofs.YtpacapcloggbkaaDoor.CodeMem
