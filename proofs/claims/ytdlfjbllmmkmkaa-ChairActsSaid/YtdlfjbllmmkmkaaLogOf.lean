/- What chair.Log answers. -/
import Derived.Test.YtdlfjbllmmkmkaaDealOf
import Derived.WalkSpells
namespace Go.Proofs.Ytdlfjbllmmkmkaa.Chair
open Go.RowKit Go.Maps Flat ChairSpec News Go.Proofs.YtdlfjbllmmkmkaaW.PrintLast
set_option linter.unusedSimpArgs false
set_option linter.unusedVariables false
set_option maxRecDepth 100000
theorem rcl_len (l : List Re) : (rcl l).length = l.length * 8 := by
  induction l with
  | nil => rfl
  | cons r l ih => simp only [rcl, List.flatMap_cons, List.length_append, List.length_cons] at ih ⊢; rw [ih, show (rec1 r).length = 8 from rfl]; omega
theorem rcl_one (l : List Re) : ∀ u ∈ rcl l, u.oneCell' = true := by
  intro u hu
  obtain ⟨r, _, hr⟩ := List.mem_flatMap.1 hu
  exact rec1_one r u hr
def LogPost (w : World) (l : List Re) (e : Ending) (w' : World) : Prop := ∃ v, e = .returned v ∧ w'.ownsRow w.heap.size 33 8 v l.length (rcl l) ∧ Below w.heap.size w w'
set_option maxHeartbeats 4000000 in
theorem clone_any (l : List Re) (hlen : l.length < 1000000) (lv : Value) (B : Nat) (w : World) (h : w.ownsRow B 33 8 lv l.length (rcl l)) :
    Calls Try.prog 30 #[lv] w (LogPost w l) := by
  rcases h.2 with ⟨h1, h2⟩ | ⟨g, cap, cur, h1, hB, hg, hnc, hcm, _⟩
  · subst h1
    have hl0 : l = [] := by cases l with
      | nil => rfl
      | cons r l => simp at h2
    subst hl0
    have hq := fun w => Lib.run_eql_slice_nil (P := Try.prog) w 53 33 none 0 0 0 0 Try.underlying53
    go_enter Try.func30, Try.ntmps30
    go_wp2_with fail
    go_ret
    exact ⟨_, rfl, World.ownsRow_nil _ _ _ _, Below.refl _ _⟩
  · subst h1
    have hcc := World.ownsRow.cells h (g := g) rfl
    have hgl := (h.lt g rfl).2
    have HNW := Lib.hid (fun (t : TypeId) (j : Nat) (u : Value) (hu : (rcl l)[j]? = some u) => show (w.alloc (.cells #[] t)).cell? ((⟨g, 0, none⟩ : Addr).add j) = some u from (((Below.refl w.heap.size w).alloc (Nat.le_refl _) (.cells #[] t)).cell (p := (⟨g, 0, none⟩ : Addr).add j) (by rw [Addr.add_mid]; exact hgl)).trans (hcc j u hu))
    have hq := fun w => Lib.run_eql_slice_nil (P := Try.prog) w 53 33 (some ⟨g, 0, none⟩) l.length cap 0 0 Try.underlying53
    obtain ⟨i0, hi, hz0, hz1, hz2⟩ := info_parts infoRec
    have HI := Lib.hid hi
    have HZ0 := Lib.hid hz0
    have HZ1 := Lib.hid hz1
    have HZ2 := Lib.hid hz2
    have HM := Lib.hid (fun t => World.ownsRow_made (base := w.heap.size) (size := 8) (e := t) w #[] 0 (Nat.le_refl _) (by decide) rfl)
    clear hi hz0 hz1 hz2 hcc h hg
    go_enter Try.func30, Try.ntmps30
    go_wp2_with (at_builtin; go_loud (refine wpList_append_own_at _ rfl _ _ 53 rfl w.heap.size 33 i0 _ 8 64 Try.underlying53 HI.out HZ0.out HZ1.out HZ2.out rfl (by decide) _ 0 [] rfl (HM.out _) ⟨g, 0, none⟩ l.length cap (rcl l) rfl (rcl_len l) (fun j u hu => HNW.out _ j u hu) (rcl_one l) (by unfold maxLen; omega) (by omega) (by simp) ?_; intro v8 w8 hob8 hg8 hnil8 hloc8; have HOB8 := Lib.hid hob8; have HB8 := Lib.hid ((Below.refl w.heap.size _).grown hg8 (by simp) (fun j hj => ((HM.out 33).lt j hj).1)); clear hob8 hg8 hnil8 hloc8))
    go_ret
    refine ⟨_, rfl, ?_, ((Below.refl _ w).alloc (Nat.le_refl _) _).trans HB8.out⟩
    have k := HOB8.out
    rw [Nat.zero_add, List.nil_append] at k
    exact k
set_option maxHeartbeats 2000000 in
theorem log_any (g bm c : Nat) (lv : Value) (s : Ch) (hlen : s.log.length < 1000000) (w : World) (h : ChairAt w g bm lv c s) :
    Calls Try.prog 19 #[.pointer (some ⟨g, 0, none⟩)] w (LogPost w s.log) := by
  have hg := h.map
  have hl := h.logc
  have HCL := Lib.hid (clone_any s.log hlen lv (g + 1) w h.row)
  obtain ⟨la, lc, hlv⟩ := slice_of h.row
  subst hlv
  clear h
  go_enter Try.func19, Try.ntmps19
  go_wp2_with fail
  refine (chair_good g bm w hg).mono ?_
  rintro r v1 ⟨rfl, rfl⟩
  go_wp2_with fail
  refine HCL.out.mono ?_
  rintro r v2 ⟨v, rfl, hv, hb⟩
  have HV := Lib.hid hv
  have HB := Lib.hid hb
  clear hv hb
  go_wp2_with fail
  go_ret
  exact ⟨v, rfl, HV.out, HB.out⟩
end Go.Proofs.Ytdlfjbllmmkmkaa.Chair
