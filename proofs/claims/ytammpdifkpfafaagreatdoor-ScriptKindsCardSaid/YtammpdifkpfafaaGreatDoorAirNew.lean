/- What air.New makes. -/
import Derived.Test.YtammpdifkpfafaaGreatDoorNews
import Derived.Test.YtammpdifkpfafaaGreatDoorWLast
import Derived.LoopTactic
import Derived.Deep.LoopGhost
import Derived.Deep.DeepCutAuto
import Derived.RegionTactic
import Derived.Lib.Hide
namespace Go.Proofs.YtammpdifkpfafaaGreatDoor.News
open Go.RowKit Flat Go.Proofs.YtammpdifkpfafaaGreatDoorW.PrintLast
set_option linter.unusedSimpArgs false
set_option linter.unusedVariables false
set_option maxRecDepth 100000

/-- The first n rings of the air at block g: ring j at block rg j, of so much room, empty. -/
def Rings (w : World) (g B n : Nat) (room : Int) (rg : Nat → Nat) : Prop :=
  (∀ j, j < n → w.cell? ⟨g, j, none⟩ = some (.pointer (some ⟨rg j, 0, none⟩)) ∧ B ≤ rg j ∧ rg j < w.heap.size ∧ w.cell? ⟨rg j, 0, none⟩ = some (.slice none 0 0) ∧ w.cell? ⟨rg j, 1, none⟩ = some (.int .i64 room) ∧ ∀ o, w.frozen? ⟨rg j, o, none⟩ = false) ∧ ∀ j k, j < k → k < n → rg j < rg k
def AirPost (w : World) (room : Int) (r : Ending) (w' : World) : Prop :=
  ∃ g rg, r = .returned (.pointer (some ⟨g, 0, none⟩)) ∧ w.heap.size ≤ g ∧ g < w'.heap.size ∧ Rings w' g (g + 1) 17 room rg ∧ (∀ o, w'.frozen? ⟨g, o, none⟩ = false) ∧ Below w.heap.size w w'
def RelA (w : World) (room : Int) (g : Nat) (i : Value) (wr : World) : Prop :=
  ∃ k : Nat, k ≤ 17 ∧ i = .int .i64 (k : Int) ∧ g < wr.heap.size ∧ (∃ rg, Rings wr g (g + 1) k room rg) ∧ (∀ j, j < 17 → ∃ v, wr.cell? ⟨g, j, none⟩ = some v) ∧ (∀ o, wr.frozen? ⟨g, o, none⟩ = false) ∧ Below w.heap.size w wr
/-- One ring more. -/
theorem rings_more {wo : World} {g k : Nat} {room : Int} {rg : Nat → Nat} {u : Value} {t : TypeId} (h : Rings wo g (g + 1) k room rg) (hg : g < wo.heap.size) (hu : wo.cell? ⟨g, k, none⟩ = some u) :
    Rings ((wo.setCell ⟨g, k, none⟩ (.pointer (some ⟨wo.heap.size, 0, none⟩))).alloc (.cells #[.slice none 0 0, .int .i64 room] t)).drew g (g + 1) (k + 1) room (fun j => if j = k then wo.heap.size else rg j) := by
  have hs : (wo.setCell ⟨g, k, none⟩ (.pointer (some ⟨wo.heap.size, 0, none⟩))).heap.size = wo.heap.size := by simp
  have hb : Below wo.heap.size (wo.setCell ⟨g, k, none⟩ (.pointer (some ⟨wo.heap.size, 0, none⟩))) ((wo.setCell ⟨g, k, none⟩ (.pointer (some ⟨wo.heap.size, 0, none⟩))).alloc (.cells #[.slice none 0 0, .int .i64 room] t)).drew :=
    ((Below.refl _ _).alloc (by rw [hs]; exact Nat.le_refl _) _).drew
  have hz : wo.heap.size < ((wo.setCell ⟨g, k, none⟩ (.pointer (some ⟨wo.heap.size, 0, none⟩))).alloc (.cells #[.slice none 0 0, .int .i64 room] t)).drew.heap.size := by
    show wo.heap.size < (World.alloc _ _).heap.size
    simp
  have hn : ∀ o, ((wo.setCell ⟨g, k, none⟩ (.pointer (some ⟨wo.heap.size, 0, none⟩))).alloc (.cells #[.slice none 0 0, .int .i64 room] t)).drew.cell? ⟨wo.heap.size, o, none⟩ = #[Value.slice none 0 0, .int .i64 room][o]? := fun o => by
    rw [World.cell?_drew]
    have := World.cell?_alloc_new (w := wo.setCell ⟨g, k, none⟩ (.pointer (some ⟨wo.heap.size, 0, none⟩))) #[.slice none 0 0, .int .i64 room] t o
    rw [hs] at this
    exact this
  have hf : ∀ o, ((wo.setCell ⟨g, k, none⟩ (.pointer (some ⟨wo.heap.size, 0, none⟩))).alloc (.cells #[.slice none 0 0, .int .i64 room] t)).drew.frozen? ⟨wo.heap.size, o, none⟩ = false := fun o => World.frozen?_alloc_at _ _ _ _ (by simp)
  generalize hv : ((wo.setCell ⟨g, k, none⟩ (.pointer (some ⟨wo.heap.size, 0, none⟩))).alloc (.cells #[.slice none 0 0, .int .i64 room] t)).drew = v at *
  clear hv
  refine ⟨fun j hj => ?_, fun j i hji hi => ?_⟩
  · dsimp only
    by_cases e : j = k
    · subst e
      rw [if_pos rfl]
      exact ⟨(hb.cell (p := ⟨g, j, none⟩) hg).trans (World.cell?_setCell_same _ _ _ hu), by omega, hz, hn 0, hn 1, hf⟩
    · rw [if_neg e]
      obtain ⟨a1, a2, a3, a4, a5, a6⟩ := h.1 j (by omega)
      refine ⟨(hb.cell (p := ⟨g, j, none⟩) hg).trans ((World.cell?_setCell_other _ _ _ _ (by first | (simp; done) | (simp; omega))).trans a1), a2, by omega, ?_, ?_, fun o => ?_⟩
      · exact (hb.cell (p := ⟨rg j, 0, none⟩) a3).trans ((World.cell?_setCell_other _ _ _ _ (by first | (simp; done) | (simp; omega))).trans a4)
      · exact (hb.cell (p := ⟨rg j, 1, none⟩) a3).trans ((World.cell?_setCell_other _ _ _ _ (by first | (simp; done) | (simp; omega))).trans a5)
      · exact (hb.frozen (p := ⟨rg j, o, none⟩) a3).trans (by rw [World.frozen?_setCell]; exact a6 o)
  · dsimp only
    by_cases e : i = k
    · rw [if_pos e, if_neg (by omega)]
      exact (h.1 j (by omega)).2.2.1
    · rw [if_neg e, if_neg (by omega)]
      exact h.2 j i hji (by omega)
set_option maxHeartbeats 4000000 in
theorem air_new (room : Int) (h1 : 1 ≤ room) (h2 : room ≤ 1000) (w : World) : Calls Tryz.prog 25 #[.int .i64 room] w (AirPost w room) := by
  have hI1 : ¬ room < 1 := by omega
  have hI2 : ¬ (1000 : Int) < room := by omega
  have HR := Lib.hid (fun W => ring_new room h1 (by omega) W)
  go_enter Tryz.func25, Tryz.ntmps25
  go_wp2_with fail
  generalize hv1 : World.alloc w _ = v1
  obtain ⟨hb1, hz1, hc1⟩ := alloc_facts hv1
  have hIN : RelA w room w.heap.size (.int .i64 0) v1 := by
    refine ⟨0, by omega, rfl, hz1, ⟨fun j => 0, fun j hj => absurd hj (by omega), fun j k _ hk => absurd hk (by omega)⟩, fun j hj => ⟨.pointer none, ?_⟩, fun o => ?_, hb1⟩
    · rw [hc1 j]
      rcases (by omega : j = 0 ∨ j = 1 ∨ j = 2 ∨ j = 3 ∨ j = 4 ∨ j = 5 ∨ j = 6 ∨ j = 7 ∨ j = 8 ∨ j = 9 ∨ j = 10 ∨ j = 11 ∨ j = 12 ∨ j = 13 ∨ j = 14 ∨ j = 15 ∨ j = 16) with rfl | rfl | rfl | rfl | rfl | rfl | rfl | rfl | rfl | rfl | rfl | rfl | rfl | rfl | rfl | rfl | rfl <;> rfl
    · rw [← hv1]; exact World.frozen?_alloc_at _ _ _ _ rfl
  clear hv1 hb1 hc1 hz1
  have hg0 : w.heap.size ≤ w.heap.size := Nat.le_refl _
  generalize hgg : w.heap.size = g at hIN hg0 ⊢
  go_loopw [13] (fun i wr => RelA w room g i wr) (fun i _ => 17 - (intOf i).toNat)
  case atStart => exact hIN
  case round =>
    obtain ⟨wo, h_wo⟩ : ∃ v : World, v = wr := ⟨_, rfl⟩; subst h_wo
    clear hIN
    obtain ⟨k, hk, rfl, hgl, ⟨rg, hrg⟩, hcell, hfz, hB⟩ := hrel
    have HRG := Lib.hid hrg
    have HC := Lib.hid hcell
    clear hrg hcell
    by_cases hk17 : k = 17
    · subst hk17
      go_wp2_with fail
      go_ret
      exact ⟨g, rg, rfl, by omega, hgl, HRG.out, hfz, hB⟩
    · have hkI : (k : Int) < 17 := by omega
      have hk0 : (0 : Int) ≤ (k : Int) := by omega
      obtain ⟨u, hu⟩ := HC.out k (by omega)
      go_wp2_with fail
      refine start_ (n := 8) (S := fun w' => Below wo.heap.size wo w' ∧ (∀ b oo, b < wo.heap.size → w'.cell? ⟨b, oo, none⟩ = wo.cell? ⟨b, oo, none⟩)) (ds := [7]) #[false, false, false, false, false, false, false, false] (by kernel_rfl) rfl rfl ⟨(still_drew wo).1, (still_drew wo).2⟩ (fun hHeld => ?_)
      refine pure_ (i := 0) (N := some 16) (v := ?_) (a' := ?_) #[true, false, false, false, false, false, false, false] rfl rfl (by kernel_rfl) (fun _ _ _ h => h) (Or.inl ⟨by rfl, ?_⟩) ?_ ?_
      rotate_left
      · intro w'
        go_simp
        with_reducible rfl
      rotate_left
      · simp only [Act.put, List.setIfInBounds_toArray, List.set_cons_zero, List.set_cons_succ, i64_w, i32_w]
        rfl
      refine pure_ (i := 1) (N := some 17) (v := ?_) (a' := ?_) #[true, true, false, false, false, false, false, false] rfl rfl (by kernel_rfl) (fun _ _ _ h => h) (Or.inl ⟨by rfl, ?_⟩) ?_ ?_
      rotate_left
      · intro w'
        go_simp
        with_reducible rfl
      rotate_left
      · simp only [Act.put, List.setIfInBounds_toArray, List.set_cons_zero, List.set_cons_succ, i64_w, i32_w]
        rfl
      refine pure_ (i := 2) (N := some 18) (v := ?_) (a' := ?_) #[true, true, true, false, false, false, false, false] rfl rfl (by kernel_rfl) (fun _ _ _ h => h) (Or.inl ⟨by rfl, ?_⟩) ?_ ?_
      rotate_left
      · intro w'
        go_simp
        with_reducible rfl
      rotate_left
      · simp only [Act.put, List.setIfInBounds_toArray, List.set_cons_zero, List.set_cons_succ, i64_w, i32_w]
        rfl
      refine pure_ (i := 4) (N := some 20) (v := ?_) (a' := ?_) #[true, true, true, false, true, false, false, false] rfl rfl (by kernel_rfl) (fun _ _ _ h => h) (Or.inl ⟨by rfl, ?_⟩) ?_ ?_
      rotate_left
      · intro w'
        go_simp
        with_reducible rfl
      rotate_left
      · simp only [Act.put, List.setIfInBounds_toArray, List.set_cons_zero, List.set_cons_succ, i64_w, i32_w]
        rfl
      refine pure_ (i := 5) (N := some 21) (v := ?_) (a' := ?_) #[true, true, true, false, true, true, false, false] rfl rfl (by kernel_rfl) (fun _ _ _ h => h) (Or.inl ⟨by rfl, ?_⟩) ?_ ?_
      rotate_left
      · intro w'
        go_simp
        with_reducible rfl
      rotate_left
      · simp only [Act.put, List.setIfInBounds_toArray, List.set_cons_zero, List.set_cons_succ, i64_w, i32_w]
        rfl
      refine one_ (i := 3) (N := some 19) #[true, true, true, true, true, true, false, false] rfl rfl (by kernel_rfl) (by decide) (fun K hK => ?_)
      refine goes_ Tryz.func45 (by kernel_rfl) rfl #[.int .i64 room] (by rfl) rfl rfl (by simp only [List.map_toArray, List.map_cons, List.map_nil]; rfl) ?_
      refine (HR.out _).mono ?_
      rintro r w3 ⟨t, rfl, hw3⟩
      refine ⟨_, rfl, ?_⟩
      have hz3 := hHeld.1.size
      obtain ⟨hb3, hz4, hc3⟩ := alloc_facts hw3.symm
      have hb := hb3
      refine hK.out _ _ ⟨(still_keep hHeld hb).1, (still_keep hHeld hb).2⟩ (fun hHeld => ?_)
      clear hK K
      refine norm_ (a' := ?_) ?_ ?_
      rotate_left
      · show Act.put _ (some 19) _ = _
        simp only [Act.put, List.setIfInBounds_toArray, List.set_cons_zero, List.set_cons_succ, i64_w, i32_w]
        rfl
      refine pure_ (i := 6) (N := some 22) (v := ?_) (a' := ?_) #[true, true, true, true, true, true, true, false] rfl rfl (by kernel_rfl) (fun _ _ _ h => h) (Or.inl ⟨by rfl, ?_⟩) ?_ ?_
      rotate_left
      · intro w'
        go_simp
        with_reducible rfl
      rotate_left
      · simp only [Act.put, List.setIfInBounds_toArray, List.set_cons_zero, List.set_cons_succ, i64_w, i32_w]
        rfl
      refine last_ (i := 7) (N := none) #[true, true, true, true, true, true, true, true] rfl rfl (by kernel_rfl) (by decide) (fun K hK => ?_)
      refine skip_ (w1 := ?_) (by rfl) rfl ?_ ?_
      rotate_left
      · go_simp
        rfl
      refine hK.out _ _ ?_
      clear hK K
      refine done_ (by kernel_rfl) ?_

      have hRR := rings_more (t := t) HRG.out hgl hu
      have hbN : Below g wo ((wo.setCell ⟨g, k, none⟩ (.pointer (some ⟨wo.heap.size, 0, none⟩))).alloc (.cells #[.slice none 0 0, .int .i64 room] t)).drew :=
        (((Below.refl g wo).setCell (p := ⟨g, k, none⟩) (Nat.le_refl _) _).alloc (by first | (simp; done) | (simp; omega)) _).drew
      have hzN : g < ((wo.setCell ⟨g, k, none⟩ (.pointer (some ⟨wo.heap.size, 0, none⟩))).alloc (.cells #[.slice none 0 0, .int .i64 room] t)).drew.heap.size := by
        show g < (World.alloc _ _).heap.size
        simp; omega
      have hbb : Below wo.heap.size (wo.setCell ⟨g, k, none⟩ (.pointer (some ⟨wo.heap.size, 0, none⟩))) ((wo.setCell ⟨g, k, none⟩ (.pointer (some ⟨wo.heap.size, 0, none⟩))).alloc (.cells #[.slice none 0 0, .int .i64 room] t)).drew :=
        ((Below.refl _ _).alloc (by simp) _).drew
      have hcN : ∀ j, j < 17 → ∃ v, ((wo.setCell ⟨g, k, none⟩ (.pointer (some ⟨wo.heap.size, 0, none⟩))).alloc (.cells #[.slice none 0 0, .int .i64 room] t)).drew.cell? ⟨g, j, none⟩ = some v := fun j hj => by
        by_cases e : j = k
        · subst e; exact ⟨_, (hbb.cell (p := ⟨g, j, none⟩) hgl).trans (World.cell?_setCell_same _ _ _ hu)⟩
        · obtain ⟨v, hv⟩ := HC.out j hj
          exact ⟨v, (hbb.cell (p := ⟨g, j, none⟩) hgl).trans ((World.cell?_setCell_other _ _ _ _ (by first | (simp; done) | (simp; omega))).trans hv)⟩
      have hfN : ∀ o, ((wo.setCell ⟨g, k, none⟩ (.pointer (some ⟨wo.heap.size, 0, none⟩))).alloc (.cells #[.slice none 0 0, .int .i64 room] t)).drew.frozen? ⟨g, o, none⟩ = false := fun o => (hbb.frozen (p := ⟨g, o, none⟩) hgl).trans (by rw [World.frozen?_setCell]; exact hfz o)
      generalize hvN : ((wo.setCell ⟨g, k, none⟩ (.pointer (some ⟨wo.heap.size, 0, none⟩))).alloc (.cells #[.slice none 0 0, .int .i64 room] t)).drew = vN at *
      have HRR := Lib.hid hRR
      have HCN := Lib.hid hcN
      have hBN : Below w.heap.size w vN := hB.trans (by rw [hgg]; exact hbN)
      clear hRR hcN hvN hbb hHeld hb hb3 hc3 hw3 hu hB hbN
      go_wp2_with fail
      go_roundw
      case rel => exact ⟨k + 1, by omega, by go_num, hzN, ⟨_, HRR.out⟩, HCN.out, hfN, hBN⟩
      case measure => simp [intOf]; omega
end Go.Proofs.YtammpdifkpfafaaGreatDoor.News
