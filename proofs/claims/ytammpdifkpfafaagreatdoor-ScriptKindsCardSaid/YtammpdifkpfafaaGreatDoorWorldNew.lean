/- What world.New makes: a world at time nought, its chair with no deals and no log. -/
import Derived.Test.YtammpdifkpfafaaGreatDoorWorldTick
import Derived.Test.YtammpdifkpfafaaGreatDoorAirNew
namespace Go.Proofs.YtammpdifkpfafaaGreatDoor.News
open Go.RowKit Flat Go.Proofs.YtammpdifkpfafaaGreatDoorW.PrintLast
set_option linter.unusedSimpArgs false
set_option linter.unusedVariables false
set_option maxRecDepth 100000

/-- Behind v0 nothing that was there has turned but the world's block, whose chair and time stand. -/
def RelN (v0 : World) (g gc : Nat) (wr : World) : Prop :=
  v0.grownBy wr (some g) ∧ g < wr.heap.size ∧ (∀ j, j < 63 → ∃ v, wr.cell? ⟨g, j, none⟩ = some v) ∧ wr.cell? ⟨g, 1, none⟩ = some (.pointer (some ⟨gc, 0, none⟩)) ∧ wr.cell? ⟨g, 62, none⟩ = some (.int .i64 0) ∧ ∀ o, wr.frozen? ⟨g, o, none⟩ = false
theorem RelN.below {v0 w w' : World} {g gc : Nat} (h : RelN v0 g gc w) (hb : Below w.heap.size w w') : RelN v0 g gc w' := by
  obtain ⟨h1, h2, h3, h4, h5, h6⟩ := h
  refine ⟨h1.trans ((grown_of_below hb).but _), Nat.lt_of_lt_of_le h2 hb.size, fun j hj => ?_, (hb.cell (p := ⟨g, 1, none⟩) h2).trans h4, (hb.cell (p := ⟨g, 62, none⟩) h2).trans h5, fun o => (hb.frozen (p := ⟨g, o, none⟩) h2).trans (h6 o)⟩
  obtain ⟨v, hv⟩ := h3 j hj
  exact ⟨v, (hb.cell (p := ⟨g, j, none⟩) h2).trans hv⟩
theorem RelN.set {v0 w : World} {g gc o : Nat} (h : RelN v0 g gc w) (ho : 2 ≤ o) (ho' : o < 62) (u : Value) : RelN v0 g gc (w.setCell ⟨g, o, none⟩ u) := by
  obtain ⟨h1, h2, h3, h4, h5, h6⟩ := h
  refine ⟨h1.trans (Script.grown_set w ⟨g, o, none⟩ u), by simpa using h2, fun j hj => ?_, (World.cell?_setCell_other _ _ _ _ (by first | (simp; done) | (simp; omega))).trans h4, (World.cell?_setCell_other _ _ _ _ (by first | (simp; done) | (simp; omega))).trans h5, fun o' => by rw [World.frozen?_setCell]; exact h6 o'⟩
  obtain ⟨v, hv⟩ := h3 j hj
  by_cases e : j = o
  · subst e; exact ⟨_, World.cell?_setCell_same _ _ _ hv⟩
  · exact ⟨v, (World.cell?_setCell_other _ _ _ _ (by first | (simp; done) | (simp; omega))).trans hv⟩
theorem RelN.drew {v0 w : World} {g gc : Nat} (h : RelN v0 g gc w) : RelN v0 g gc w.drew := h.below (Below.refl _ _).drew
def WorldPost (w : World) (r : Ending) (w' : World) : Prop :=
  ∃ g gc bm, r = .returned (.pointer (some ⟨g, 0, none⟩)) ∧ WorldAt w' g gc bm 0 ∧ w.heap.size ≤ g ∧ w.heap.size ≤ gc ∧ Below w.heap.size w w'
set_option maxHeartbeats 4000000 in
theorem world_new (w : World) : Calls Tryz.prog 12 #[] w (WorldPost w) := by
  have HS := Lib.hid (fun W => site_new W)
  go_enter Tryz.func12, Tryz.ntmps12
  go_wp2_with fail
  refine (air_new 100 (by decide) (by decide) w).mono ?_
  rintro r v1 ⟨ga, rg, rfl, hga0, hga1, hrings, hgaf, hb1⟩
  have HB1 := Lib.hid hb1
  clear hrings hgaf hb1 hga0 hga1
  go_wp2_with fail
  refine (chair_new v1).mono ?_
  rintro r v2 ⟨gc, bm, rfl, hbm0, hbm1, hgc1, c0, c1, cf, ho, hb2⟩
  have HB2 := Lib.hid (HB1.out.trans (hb2.mono HB1.out.size))
  have hsz1 := HB1.out.size
  have HO := Lib.hid ho
  have HCF := Lib.hid cf
  clear hb2 ho cf HB1
  go_wp2_with fail
  generalize hv3 : World.alloc v2 _ = v3
  obtain ⟨hb3, hz3, hc3⟩ := alloc_facts hv3
  have hf3 : ∀ o, v3.frozen? ⟨v2.heap.size, o, none⟩ = false := fun o => by rw [← hv3]; exact World.frozen?_alloc_at _ _ _ _ rfl
  clear hv3
  have hrel0 : RelN v3 v2.heap.size gc v3 := by
    refine ⟨⟨rfl, rfl, rfl, Nat.le_refl _, fun _ _ _ => rfl⟩, hz3, fun j hj => ?_, hc3 1, hc3 62, hf3⟩
    have := hc3 j
    refine ⟨_, this.trans (Array.getElem?_eq_getElem (by simpa using hj))⟩
  have hg0 : w.heap.size ≤ v2.heap.size := HB2.out.size
  have hHB : Below w.heap.size w v3 := HB2.out.trans (hb3.mono hg0)
  have HB3 := Lib.hid hHB
  have hgcl : gc < v3.heap.size := by omega
  have hgne : v2.heap.size ≠ gc := by omega
  have d0 := (hb3.cell (p := ⟨gc, 0, none⟩) hgc1).trans c0
  have d1 := (hb3.cell (p := ⟨gc, 1, none⟩) hgc1).trans c1
  have hof := (hb3.frozen (p := ⟨gc, 1, none⟩) hgc1).trans (HCF.out 1)
  have HO3 := Lib.hid (HO.out.below hb3 HO.out.lt)
  have hbg : bm ≠ v2.heap.size := by omega
  have hgw : w.heap.size ≤ gc := by omega
  clear hc3 hf3 hb3 c0 c1 HO HCF HB2 hHB hgc1 hz3
  generalize v2.heap.size = g at *
  have hIN : ∃ k : Nat, k ≤ 3 ∧ Value.int .u8 0 = .int .u8 (k : Int) ∧ RelN v3 g gc v3 := ⟨0, by omega, rfl, hrel0⟩
  clear hrel0
  go_loopw [9] (fun i wr => ∃ k : Nat, k ≤ 3 ∧ i = .int .u8 (k : Int) ∧ RelN v3 g gc wr) (fun i _ => 3 - (intOf i).toNat)
  case atStart => exact hIN
  case round =>
    obtain ⟨wo, h_wo⟩ : ∃ v : World, v = wr := ⟨_, rfl⟩; subst h_wo
    clear hIN
    obtain ⟨k, hk, rfl, hrn⟩ := hrel
    by_cases hk3 : k = 3
    · subst hk3
      have HRN := Lib.hid hrn
      clear hrn
      go_wp2_with fail
      go_ret
      obtain ⟨h1, h2, h3, h4, h5, h6⟩ := HRN.out
      have hcf : ∀ p : Addr, p.block = gc → wo.cell? p = v3.cell? p := fun p hp => h1.cell_far p (by rw [hp]; exact hgcl) (fun e => hgne (by rw [hp] at e; cases e; rfl))
      refine ⟨g, gc, bm, rfl, ⟨h4, h5, h6 62, hgne, (hcf ⟨gc, 0, none⟩ rfl).trans d0, (hcf ⟨gc, 1, none⟩ rfl).trans d1, ?_, HO3.out.heap (h1.block bm HO3.out.lt (fun e => hbg (Option.some.inj e)))⟩, hg0, hgw, HB3.out.trans (Script.grown_below h1 hg0 HB3.out.size)⟩
      have e := h1.block gc hgcl (fun e => hgne (Option.some.inj e).symm)
      have := hof
      unfold World.frozen? at this ⊢
      simpa only [e] using this
    · have hkI : (k : Int) < 3 := by omega
      have hk0 : (0 : Int) ≤ (k : Int) := by omega
      obtain ⟨u0, hu0⟩ := hrn.2.2.1 (2 + k) (by omega)
      have hfz0 := hrn.2.2.2.2.2 (2 + k)
      have hgl := hrn.2.1
      have HRN := Lib.hid hrn
      clear hrn
      go_wp2_with fail
      refine start_ (n := 7) (S := fun w' => Below wo.heap.size wo w' ∧ (∀ b oo, b < wo.heap.size → w'.cell? ⟨b, oo, none⟩ = wo.cell? ⟨b, oo, none⟩)) (ds := [6]) #[false, false, false, false, false, false, false] (by kernel_rfl) rfl rfl ⟨(still_drew wo).1, (still_drew wo).2⟩ (fun hHeld => ?_)
      refine pure_ (i := 0) (N := some 12) (v := ?_) (a' := ?_) #[true, false, false, false, false, false, false] rfl rfl (by kernel_rfl) (fun _ _ _ h => h) (Or.inl ⟨by rfl, ?_⟩) ?_ ?_
      rotate_left
      · intro w'
        go_simp
        with_reducible rfl
      rotate_left
      · simp only [Act.put, List.setIfInBounds_toArray, List.set_cons_zero, List.set_cons_succ, i64_w, i32_w]
        rfl
      refine pure_ (i := 1) (N := some 13) (v := ?_) (a' := ?_) #[true, true, false, false, false, false, false] rfl rfl (by kernel_rfl) (fun _ _ _ h => h) (Or.inl ⟨by rfl, ?_⟩) ?_ ?_
      rotate_left
      · intro w'
        go_simp
        with_reducible rfl
      rotate_left
      · simp only [Act.put, List.setIfInBounds_toArray, List.set_cons_zero, List.set_cons_succ, i64_w, i32_w]
        rfl
      refine pure_ (i := 3) (N := some 15) (v := ?_) (a' := ?_) #[true, true, false, true, false, false, false] rfl rfl (by kernel_rfl) (fun _ _ _ h => h) (Or.inl ⟨by rfl, ?_⟩) ?_ ?_
      rotate_left
      · intro w'
        go_simp
        with_reducible rfl
      rotate_left
      · simp only [Act.put, List.setIfInBounds_toArray, List.set_cons_zero, List.set_cons_succ, i64_w, i32_w]
        rfl
      refine pure_ (i := 4) (N := some 16) (v := ?_) (a' := ?_) #[true, true, false, true, true, false, false] rfl rfl (by kernel_rfl) (fun _ _ _ h => h) (Or.inl ⟨by rfl, ?_⟩) ?_ ?_
      rotate_left
      · intro w'
        go_simp
        with_reducible rfl
      rotate_left
      · simp only [Act.put, List.setIfInBounds_toArray, List.set_cons_zero, List.set_cons_succ, i64_w, i32_w]
        rfl
      refine one_ (i := 2) (N := some 14) #[true, true, true, true, true, false, false] rfl rfl (by kernel_rfl) (by decide) (fun K hK => ?_)
      refine goes_ Tryz.func27 (by kernel_rfl) rfl #[] (by rfl) rfl rfl (by simp only [List.map_toArray, List.map_nil]) ?_
      refine (HS.out _).mono ?_
      rintro r w3 ⟨gs, bs, rfl, _, _, _, _, _, _, _, _, _, hb⟩
      refine ⟨_, rfl, ?_⟩
      have hf9 := (hb.frozen (p := ⟨g, 2 + k, none⟩) (Nat.lt_of_lt_of_le hgl hHeld.1.size)).trans ((hHeld.1.frozen (p := ⟨g, 2 + k, none⟩) hgl).trans hfz0)
      refine hK.out _ _ ⟨(still_keep hHeld hb).1, (still_keep hHeld hb).2⟩ (fun hHeld => ?_)
      clear hK K
      refine norm_ (a' := ?_) ?_ ?_
      rotate_left
      · show Act.put _ (some 14) _ = _
        simp only [Act.put, List.setIfInBounds_toArray, List.set_cons_zero, List.set_cons_succ, i64_w, i32_w]
        rfl
      refine pure_ (i := 5) (N := some 17) (v := ?_) (a' := ?_) #[true, true, true, true, true, true, false] rfl rfl (by kernel_rfl) (fun _ _ _ h => h) (Or.inl ⟨by rfl, ?_⟩) ?_ ?_
      rotate_left
      · intro w'
        go_simp
        with_reducible rfl
      rotate_left
      · simp only [Act.put, List.setIfInBounds_toArray, List.set_cons_zero, List.set_cons_succ, i64_w, i32_w]
        rfl
      refine last_ (i := 6) (N := none) #[true, true, true, true, true, true, true] rfl rfl (by kernel_rfl) (by decide) (fun K hK => ?_)
      refine skip_ (w1 := ?_) (by rfl) rfl ?_ ?_
      rotate_left
      · go_simp
        rfl
      refine hK.out _ _ ?_
      clear hK K
      refine done_ (by kernel_rfl) ?_

      have hR5 : RelN v3 g gc w3 := HRN.out.below hHeld.1
      have hR6 : RelN v3 g gc (w3.setCell ⟨g, 2 + k, none⟩ (.pointer (some ⟨gs, 0, none⟩))) := hR5.set (by omega) (by omega) _
      clear hHeld HRN hf9 hu0 hfz0 hb hR5
      generalize w3.setCell ⟨g, 2 + k, none⟩ (.pointer (some ⟨gs, 0, none⟩)) = v6 at *
      obtain ⟨u5, hu5⟩ := hR6.2.2.1 (5 + k) (by omega)
      have hfz5 := hR6.2.2.2.2.2 (5 + k)
      have HR6 := Lib.hid hR6
      clear hR6 hgl
      go_wp2_with fail
      have hIN2 : ∃ s : Nat, s ≤ 3 ∧ Value.int .u8 0 = .int .u8 (s : Int) ∧ RelN v3 g gc (v6.setCell ⟨g, 5 + k, none⟩ (.int .u8 (k : Int))) := ⟨0, by omega, rfl, HR6.out.set (by omega) (by omega) _⟩
      clear hu5 hfz5 HR6
      go_loopw [24] (fun i wr => ∃ s : Nat, s ≤ 3 ∧ i = .int .u8 (s : Int) ∧ RelN v3 g gc wr) (fun i _ => 3 - (intOf i).toNat)
      case atStart => exact hIN2
      case round =>
        obtain ⟨wi, h_wi⟩ : ∃ v : World, v = wr := ⟨_, rfl⟩; subst h_wi
        clear hIN2
        obtain ⟨s, hs, rfl, hrn⟩ := hrel
        by_cases hs3 : s = 3
        · subst hs3
          obtain ⟨a1, ha1⟩ := hrn.2.2.1 (8 + k * 18 + k * 6 + 1) (by omega)
          obtain ⟨a2, ha2⟩ := hrn.2.2.1 (8 + k * 18 + k * 6 + 1 + 1) (by omega)
          obtain ⟨a3, ha3⟩ := hrn.2.2.1 (8 + k * 18 + k * 6 + 1 + 2) (by omega)
          have hf1 := hrn.2.2.2.2.2 (8 + k * 18 + k * 6 + 1)
          have hf2 := hrn.2.2.2.2.2 (8 + k * 18 + k * 6 + 1 + 1)
          have hf3 := hrn.2.2.2.2.2 (8 + k * 18 + k * 6 + 1 + 2)
          have HRN := Lib.hid hrn
          clear hrn
          go_wp2_with fail
          exact ⟨⟨k + 1, by omega, by go_num, ((HRN.out.set (by omega) (by omega) _).set (by omega) (by omega) _).set (by omega) (by omega) _⟩, by simp [intOf]; omega⟩
        · have hsI : (s : Int) < 3 := by omega
          have hs0 : (0 : Int) ≤ (s : Int) := by omega
          obtain ⟨a1, ha1⟩ := hrn.2.2.1 (8 + s * 18 + k * 6) (by omega)
          have hf1 := hrn.2.2.2.2.2 (8 + s * 18 + k * 6)
          have HRN := Lib.hid hrn
          clear hrn
          go_wp2_with fail
          exact ⟨⟨s + 1, by omega, by go_num, HRN.out.set (by omega) (by omega) _⟩, by simp [intOf]; omega⟩
end Go.Proofs.YtammpdifkpfafaaGreatDoor.News
