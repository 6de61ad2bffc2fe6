/- script.Run of the bytes 11 9 4 3 0: two steps: a tick, and a speak of nobody. -/
import Derived.Test.YtammpdifkpfafaaGreatDoorWorldNew
import Derived.Test.YtammpdifkpfafaaGreatDoorWorldDo
import Derived.Test.YtammpdifkpfafaaGreatDoorScriptDec
namespace Go.Proofs.YtammpdifkpfafaaGreatDoor.News
open Go.RowKit Flat Go.Proofs.YtammpdifkpfafaaGreatDoorW.PrintLast ByteMem ScriptSpec
set_option linter.unusedSimpArgs false
set_option linter.unusedVariables false
set_option maxRecDepth 100000

theorem dec_run : dec 0 [11, 9, 4, 3, 0] = [⟨11, 0, 0, 0, 0, 0, 9⟩, ⟨4, 0, 3, 0, 0, 0, 0⟩] := by
  simp [dec_cons, dec_nil, fds, puts, put, start0]
theorem dec_alive : dec 0 [4, 1, 2, 2, 0, 7, 3, 1, 133, 0, 8] = [⟨4, 0, 1, 2, 0, 0, 0⟩, ⟨2, 7, 0, 0, 3, 1, 5⟩] := by
  simp [dec_cons, dec_nil, fds, puts, put, start0]
theorem infoA : (Tryz.prog.info? 44).map (fun i => (i.zero, i.size, i.bytes)) = some (some (.agg #[.int .i64 0, .int .i64 0]), 2, 16) := by kernel_rfl
/-- The answers, as far as k of them are there. -/
def ans (k : Nat) : List Value := [Value.int .i64 0, .int .i64 0, .int .i64 0, .int .i64 7].take (k * 2)
theorem new_ans {w : World} {e : Int} {t : TypeId} {j : Nat} {u : Value} (h : [Value.int .i64 0, .int .i64 e][j]? = some u) :
    (w.alloc (.cells #[.int .i64 0, .int .i64 e] t)).cell? ((⟨w.heap.size, 0, none⟩ : Addr).add j) = some u := by
  have e : ((⟨w.heap.size, 0, none⟩ : Addr).add j) = ⟨w.heap.size, j, none⟩ := by unfold Addr.add; split <;> simp_all
  rw [e, World.cell?_alloc_new]
  simpa using h
/-- The row of steps, in a block of its own. -/
def StepsAt (w : World) (gd : Nat) : Prop :=
  w.cell? ⟨gd, 0, none⟩ = some (.int .i64 11) ∧ w.cell? ⟨gd, 1, none⟩ = some (.int .i64 0) ∧ w.cell? ⟨gd, 2, none⟩ = some (.int .u8 0) ∧ w.cell? ⟨gd, 3, none⟩ = some (.int .u8 0) ∧ w.cell? ⟨gd, 4, none⟩ = some (.int .i64 0) ∧ w.cell? ⟨gd, 5, none⟩ = some (.int .u8 0) ∧ w.cell? ⟨gd, 6, none⟩ = some (.int .i64 9) ∧
  w.cell? ⟨gd, 7, none⟩ = some (.int .i64 4) ∧ w.cell? ⟨gd, 8, none⟩ = some (.int .i64 0) ∧ w.cell? ⟨gd, 9, none⟩ = some (.int .u8 3) ∧ w.cell? ⟨gd, 10, none⟩ = some (.int .u8 0) ∧ w.cell? ⟨gd, 11, none⟩ = some (.int .i64 0) ∧ w.cell? ⟨gd, 12, none⟩ = some (.int .u8 0) ∧ w.cell? ⟨gd, 13, none⟩ = some (.int .i64 0)
theorem StepsAt.cells {w w' : World} {gd : Nat} (h : StepsAt w gd) (hc : ∀ o, w'.cell? ⟨gd, o, none⟩ = w.cell? ⟨gd, o, none⟩) : StepsAt w' gd := by
  unfold StepsAt
  simp only [hc]
  exact h
theorem do_tick9 (g gc bm : Nat) (w : World) (h : WorldAt w g gc bm 0) :
    Calls Tryz.prog 13 #[.pointer (some ⟨g, 0, none⟩), .agg #[.int .i64 11, .int .i64 0, .int .u8 0, .int .u8 0, .int .i64 0, .int .u8 0, .int .i64 9]] w fun r w' => r = .returned (.tuple #[.int .i64 0, .int .i64 0]) ∧ w'.cell? ⟨g, 1, none⟩ = some (.pointer (some ⟨gc, 0, none⟩)) ∧ w'.cell? ⟨g, 62, none⟩ = some (.int .i64 9) ∧ Beside g gc w w' := by
  refine (do_quiet g gc 10 0 0 0 0 0 9 0 (by decide) (by decide) w (fun W w' => w'.cell? ⟨g, 1, none⟩ = some (.pointer (some ⟨gc, 0, none⟩)) ∧ w'.cell? ⟨g, 62, none⟩ = some (.int .i64 (0 + 9)) ∧ Beside g gc W w') h.1 (fun W bx hW hbx => ?_)).mono ?_
  · exact quiet_tick g gc bm 0 bx 11 0 0 0 0 0 9 (by decide) (by decide) (by decide) (by decide) W (h.below hW) hbx
  · rintro r w' ⟨rfl, W, hW, h1, h2, h3⟩
    exact ⟨rfl, h1, h2, (Beside.of_below hW).trans h3⟩
theorem do_speak3 (g gc : Nat) (w : World) (h : w.cell? ⟨g, 1, none⟩ = some (.pointer (some ⟨gc, 0, none⟩))) :
    Calls Tryz.prog 13 #[.pointer (some ⟨g, 0, none⟩), .agg #[.int .i64 4, .int .i64 0, .int .u8 3, .int .u8 0, .int .i64 0, .int .u8 0, .int .i64 0]] w fun r w' => r = .returned (.tuple #[.int .i64 0, .int .i64 7]) ∧ Below w.heap.size w w' := by
  refine (do_quiet g gc 3 0 3 0 0 0 0 7 (by decide) (by decide) w (fun W w' => Below W.heap.size W w') h (fun W bx hW hbx => ?_)).mono ?_
  · exact quiet_speak (some ⟨g, 0, none⟩) bx 4 0 3 0 0 0 0 (by decide) W hbx
  · rintro r w' ⟨rfl, W, hW, h1⟩
    exact ⟨rfl, hW.trans (h1.mono hW.size)⟩
theorem own_blocks {w w' : World} {base size n : Nat} {e : TypeId} {v : Value} {xs : List Value} (h : w.ownsRow base e size v n xs) (hk : ∀ i, base ≤ i → i < w.heap.size → w'.heap[i]? = w.heap[i]?) : w'.ownsRow base e size v n xs := by
  have hlt := h.lt
  refine ⟨h.1, ?_⟩
  rcases h.2 with h1 | ⟨g, cap, cur, h1, h2, h3, rest⟩
  · exact .inl h1
  · subst h1
    exact .inr ⟨g, cap, cur, rfl, h2, (hk g h2 (hlt g rfl).2).trans h3, rest⟩
def RunPost (w : World) (r : Ending) (w' : World) : Prop :=
  ∃ g gc v, r = .returned (.tuple #[.pointer (some ⟨g, 0, none⟩), v]) ∧ w'.ownsRow w.heap.size 44 2 v 2 (ans 2) ∧ w'.cell? ⟨g, 1, none⟩ = some (.pointer (some ⟨gc, 0, none⟩)) ∧ w'.cell? ⟨g, 62, none⟩ = some (.int .i64 9) ∧ Below w.heap.size w w'
def RelR (w : World) (g gc bm gd : Nat) (out i : Value) (wr : World) : Prop :=
  ∃ k : Nat, k ≤ 2 ∧ i = .int .i64 (k : Int) ∧ wr.ownsRow (gd + 1) 44 2 out k (ans k) ∧ (k = 0 → WorldAt wr g gc bm 0) ∧ (0 < k → wr.cell? ⟨g, 1, none⟩ = some (.pointer (some ⟨gc, 0, none⟩)) ∧ wr.cell? ⟨g, 62, none⟩ = some (.int .i64 9)) ∧ StepsAt wr gd ∧ Below w.heap.size w wr
set_option maxHeartbeats 4000000 in
theorem run_alive (w : World) (b : Nat) (h : IsB w w.heap.size (some ⟨b, 0, none⟩) [11, 9, 4, 3, 0]) :
    Calls Tryz.prog 11 #[.slice (some ⟨b, 0, none⟩) 5 5] w (RunPost w) := by
  have HH := Lib.hid h
  clear h
  go_enter Tryz.func11, Tryz.ntmps11
  go_wp2_with fail
  refine (world_new w).mono ?_
  rintro r v1 ⟨g, gc, bm, rfl, hwa, hg0, hgc0, hb1⟩
  have HWA := Lib.hid hwa
  have HB1 := Lib.hid hb1
  have hDEC := Script.decode_any v1 (some ⟨b, 0, none⟩) [11, 9, 4, 3, 0] 5 ((HH.out.below hb1).mono hb1.size) (by decide) (by decide)
  have HDEC := Lib.hid hDEC
  clear hwa hb1 hDEC
  go_wp2_with fail
  refine HDEC.out.mono ?_
  rintro r v2 ⟨v, rfl, hos, hb2⟩
  rw [dec_run] at hos
  obtain ⟨gd, capd, rfl, hcd0, hcd1, hgd0, hgd1, hst⟩ := Script.owns_read hos (by decide)
  have s0 := hst 0 (by decide)
  have s1 := hst 1 (by decide)
  have hSA : StepsAt v2 gd := ⟨s0.1, s0.2.1, s0.2.2.1, s0.2.2.2.1, s0.2.2.2.2.1, s0.2.2.2.2.2.1, s0.2.2.2.2.2.2, s1.1, s1.2.1, s1.2.2.1, s1.2.2.2.1, s1.2.2.2.2.1, s1.2.2.2.2.2.1, s1.2.2.2.2.2.2⟩
  have hwa2 := HWA.out.below hb2
  have hgl : g < gd := by have := Flat.cell_lt HWA.out.1; omega
  have hgcl : gc < gd := by have := Flat.cell_lt HWA.out.2.2.2.2.1; omega
  have hgg : gd ≠ g := by omega
  have hggc : gd ≠ gc := by omega
  have hs1 := HB1.out.size
  have hB2 : Below w.heap.size w v2 := HB1.out.trans (hb2.mono hs1)
  have hgdw : w.heap.size ≤ gd := by omega
  have hIN : RelR w g gc bm gd (.slice none 0 0) (.int .i64 0) v2 := ⟨0, by omega, rfl, World.ownsRow_nil _ _ _ _, fun _ => hwa2, fun h => absurd h (by omega), hSA, hB2⟩
  have hlo : gd < g ∨ True := .inr trivial
  clear s0 s1 hst hos hb2 HWA hSA hwa2 hB2 HB1 HH HDEC hlo
  go_wp2_with fail
  go_loopw [5, 14] (fun out i wr => RelR w g gc bm gd out i wr) (fun _ i _ => 2 - (intOf i).toNat)
  case atStart => exact hIN
  case round =>
    obtain ⟨wo, h_wo⟩ : ∃ v : World, v = wr := ⟨_, rfl⟩; subst h_wo
    clear hIN
    obtain ⟨k, hk, rfl, how, hwa, hnow, hsa, hBw⟩ := hrel
    obtain ⟨ao, co, rfl⟩ := Script.row_slice how
    have HOW := Lib.hid how
    have HBW := Lib.hid hBw
    have HWA := Lib.hid hwa
    have HNOW := Lib.hid hnow
    clear how hBw hwa hnow
    rcases (by omega : k = 0 ∨ k = 1 ∨ k = 2) with rfl | rfl | rfl
    · have hwk := HWA.out rfl
      have HSA := Lib.hid hsa
      obtain ⟨e0, e1, e2, e3, e4, e5, e6, e7, e8, e9, e10, e11, e12, e13⟩ := hsa
      have hgdl : gd < wo.heap.size := Flat.cell_lt e0
      go_wp2_with fail
      generalize hv4 : World.alloc wo _ = v4
      obtain ⟨hb4, hz4, hc4⟩ := alloc_facts hv4
      clear hv4 hc4 e0 e1 e2 e3 e4 e5 e6 e7 e8 e9 e10 e11 e12 e13
      refine (do_tick9 g gc bm v4 (hwk.below hb4)).mono ?_
      rintro r v5 ⟨rfl, n1, n2, hbs⟩
      have hb5 : Beside g gc wo v5 := (Beside.of_below hb4).trans hbs
      have how5 := own_blocks HOW.out (fun i h1 h2 => hb5.block i h2 (by omega) (by omega))
      have N1 := Lib.hid n1
      have N2 := Lib.hid n2
      clear n1 n2 hbs hwk HWA HNOW
      clear hb4
      obtain ⟨i0, hi, hz0, hz1, hz2⟩ := info_parts infoA
      have hgd5 : gd + 1 ≤ v5.heap.size := by have := hb5.size; omega
      have HB5 := Lib.hid hb5
      have HOW5 := Lib.hid how5
      clear hb5 how5 HOW
      go_wp2_with (first | (at_builtin; refine wpList_append_own_at _ rfl _ _ 36 rfl (gd + 1) 44 i0 _ 2 16 Tryz.underlying36 hi hz0 hz1 hz2 rfl (by decide) _ 0 _ rfl (HOW5.out.alloc _) ⟨v5.heap.size, 0, none⟩ 1 1 [.int .i64 0, .int .i64 0] rfl rfl (fun j u hu => new_ans hu) (by simp [Value.oneCell']) (by unfold maxLen; omega) (by omega) (by simp; omega) ?_; intro v8 w8 hob8 hg8 hnil8 hloc8; have hB8 := (Below.refl (gd + 1) _).grown hg8 (by simp; omega) (fun j hj => (HOW5.out.lt j hj).1); have HOB8 := Lib.hid hob8; have HB8 := Lib.hid hB8; clear hob8 hg8 hnil8 hloc8 hB8))
      have hba : Below (gd + 1) v5 w8 := ((Below.refl _ v5).alloc (by omega) _).trans HB8.out
      refine ⟨⟨1, by omega, rfl, HOB8.out, fun h => absurd h (by omega), fun _ => ⟨(hba.cell (p := ⟨g, 1, none⟩) (by show g < gd + 1; omega)).trans N1.out, (hba.cell (p := ⟨g, 62, none⟩) (by show g < gd + 1; omega)).trans N2.out⟩, ?_, (HBW.out.trans (HB5.out.below hg0 hgc0 HBW.out.size)).trans (hba.mono (by omega))⟩, by simp [intOf]⟩
      exact HSA.out.cells (fun o => (hba.cell (p := ⟨gd, o, none⟩) (by show gd < gd + 1; omega)).trans (HB5.out.cell hgdl hgg hggc))
    · have hnk := HNOW.out (by decide)
      have HSA := Lib.hid hsa
      obtain ⟨e0, e1, e2, e3, e4, e5, e6, e7, e8, e9, e10, e11, e12, e13⟩ := hsa
      have hgdl : gd < wo.heap.size := Flat.cell_lt e0
      go_wp2_with fail
      generalize hv4 : World.alloc wo _ = v4
      obtain ⟨hb4, hz4, hc4⟩ := alloc_facts hv4
      clear hv4 hc4 e0 e1 e2 e3 e4 e5 e6 e7 e8 e9 e10 e11 e12 e13
      refine (do_speak3 g gc v4 ((hb4.cell (p := ⟨g, 1, none⟩) (Flat.cell_lt hnk.1)).trans hnk.1)).mono ?_
      rintro r v5 ⟨rfl, hbs⟩
      have hb45 : Below wo.heap.size wo v5 := hb4.trans (hbs.mono (by omega))
      have n1 := (hb45.cell (p := ⟨g, 1, none⟩) (Flat.cell_lt hnk.1)).trans hnk.1
      have n2 := (hb45.cell (p := ⟨g, 62, none⟩) (Flat.cell_lt hnk.1)).trans hnk.2
      have hb5 : Beside g gc wo v5 := Beside.of_below hb45
      have how5 := own_blocks HOW.out (fun i h1 h2 => hb5.block i h2 (by omega) (by omega))
      have N1 := Lib.hid n1
      have N2 := Lib.hid n2
      clear n1 n2 hbs hb45 hnk HWA HNOW
      clear hb4
      obtain ⟨i0, hi, hz0, hz1, hz2⟩ := info_parts infoA
      have hgd5 : gd + 1 ≤ v5.heap.size := by have := hb5.size; omega
      have HB5 := Lib.hid hb5
      have HOW5 := Lib.hid how5
      clear hb5 how5 HOW
      go_wp2_with (first | (at_builtin; refine wpList_append_own_at _ rfl _ _ 36 rfl (gd + 1) 44 i0 _ 2 16 Tryz.underlying36 hi hz0 hz1 hz2 rfl (by decide) _ 1 _ rfl (HOW5.out.alloc _) ⟨v5.heap.size, 0, none⟩ 1 1 [.int .i64 0, .int .i64 7] rfl rfl (fun j u hu => new_ans hu) (by simp [Value.oneCell']) (by unfold maxLen; omega) (by omega) (by simp; omega) ?_; intro v8 w8 hob8 hg8 hnil8 hloc8; have hB8 := (Below.refl (gd + 1) _).grown hg8 (by simp; omega) (fun j hj => (HOW5.out.lt j hj).1); have HOB8 := Lib.hid hob8; have HB8 := Lib.hid hB8; clear hob8 hg8 hnil8 hloc8 hB8))
      have hba : Below (gd + 1) v5 w8 := ((Below.refl _ v5).alloc (by omega) _).trans HB8.out
      refine ⟨⟨2, by omega, rfl, HOB8.out, fun h => absurd h (by omega), fun _ => ⟨(hba.cell (p := ⟨g, 1, none⟩) (by show g < gd + 1; omega)).trans N1.out, (hba.cell (p := ⟨g, 62, none⟩) (by show g < gd + 1; omega)).trans N2.out⟩, ?_, (HBW.out.trans (HB5.out.below hg0 hgc0 HBW.out.size)).trans (hba.mono (by omega))⟩, by simp [intOf]⟩
      exact HSA.out.cells (fun o => (hba.cell (p := ⟨gd, o, none⟩) (by show gd < gd + 1; omega)).trans (HB5.out.cell hgdl hgg hggc))
    · clear hsa
      go_wp2_with fail
      simp [bodyPost, results, Tryz.results11, go_sem]
      obtain ⟨n1, n2⟩ := HNOW.out (by decide)
      exact ⟨g, gc, _, rfl, HOW.out.mono (by omega), n1, n2, HBW.out⟩
end Go.Proofs.YtammpdifkpfafaaGreatDoor.News
