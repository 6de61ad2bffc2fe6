/- CellsThrough: All goes by rising keys through what there was when it was called, and ends where who goes through has enough. -/
import Derived.Test.YtcenfolmajegeaaThrough
namespace Go.Proofs.Ytcenfolmajegeaa.LCellsThrough
open Go Go.RowKit Go.Maps Go.Shelf Flat SeqOver WordCells WordIter Through CellMem
set_option linter.unusedSimpArgs false
set_option linter.unusedVariables false
set_option maxRecDepth 100000
attribute [local go_sem] Oper.semAt_some
theorem fin_bool {fn : Func} {p : Tmp} (h : fn.results = #[.cell p 4]) (tmps : Array Value) (w : World) (b : Nat) (x : Bool) (hp : tmps.getD p undef = .pointer (some ⟨b, 0, none⟩)) (hc : w.cell? ⟨b, 0, none⟩ = some (.bool x)) :
    (results fn tmps).run Try.prog w = .ok (.bool x) w := by
  have hp' : tmps[p]?.getD undef = .pointer (some ⟨b, 0, none⟩) := by simpa using hp
  simp [results, h, hp', asAddr, go_sem, hc]
abbrev X : ByteArray := ⟨#[120]⟩
set_option maxHeartbeats 8000000 in
theorem walk (a0 : Option Addr) (len0 cap0 : Nat) (r0 : List (List Value)) (a1 : Int) (w : World) (w0 : IsRows [.int .u8, .int .u8, .int .i64] w a0 len0 cap0 r0) (w1 : (Lit.int .u8 a1).wf = true) :
    Calls Try.prog 7 #[.slice a0 len0 cap0, .int .u8 a1] w fun e w' => e = .returned (.bool true) ∧ Below w.heap.size w w' := by
  have hmax : len0 ≤ maxLen := Nat.le_trans w0.2.1 w0.2.2.1
  unfold maxLen at hmax
  obtain ⟨st, rfl, hst⟩ := u8_nat w1
  clear w1
  refine (callsIn_wide (n := 12)).1 ?_
  refine callsIn_of_wp_marks Try.func7 rfl trivial ?_ rfl
  simp only [Try.ntmps7, List.size_toArray, List.length_cons, List.length_nil, Nat.reduceAdd, Nat.reduceSub, Array.replicate_succ, Array.replicate_zero, List.push_toArray, List.append_toArray, List.nil_append, List.cons_append]
  have hfA : Fence.wide.fn 9 := trivial
  have hf1 : Fence.wide.fn 21 := trivial
  have hf2 : Fence.wide.fn 22 := trivial
  have hf3 : Fence.wide.fn 23 := trivial
  have hf4 : Fence.wide.fn 24 := trivial
  have hf5 : Fence.wide.fn 25 := trivial
  gi_wp2_with fail
  generalize hv1 : World.alloc (World.alloc w _) _ = v1
  have hb1 : Below w.heap.size w v1 := by rw [← hv1]; exact ((Below.refl _ w).alloc (Nat.le_refl _) _).alloc (by simp) _
  have hs1 : v1.heap.size = w.heap.size + 2 := by rw [← hv1]; simp
  have c3 : v1.cell? ⟨w.heap.size, 0, none⟩ = some (.int .u8 (st : Int)) := by rw [← hv1]; simp [go_sem]
  have c4 : At v1 (w.heap.size + 1) (.bool false) := by
    have k := at_new (w.alloc (.cells #[.int .u8 (st : Int)] 5)) (.bool false) 4
    rw [World.size_alloc, hv1] at k
    exact k
  clear hv1
  refine (callsIn_wide.2 (CellAlive.alive_any v1)).mono ?_
  rintro e v2 ⟨rfl, hb2⟩
  have z3 := Flat.cell_lt c3
  have c3 := (hb2.cell (p := ⟨w.heap.size, 0, none⟩) z3).trans c3
  have c4 := c4.heap (hb2.block _ c4.lt)
  have hB2 := hb1.trans (hb2.mono (by omega))
  have hs2 := hb2.size
  clear hb1 hb2
  gi_wp2_with fail
  refine (callsIn_wide.2 (new_any v2)).mono ?_
  rintro e v3 ⟨g, bn, rfl, hbx, hg0, hbn0, hb3⟩
  have c3 := (hb3.cell (p := ⟨w.heap.size, 0, none⟩) (by show w.heap.size < _; omega)).trans c3
  have c4 := c4.heap (hb3.block _ c4.lt)
  have hB3 := hB2.trans (hb3.mono (by omega))
  have hs3 := hb3.size
  clear hb3 hB2
  generalize hw3 : w.heap.size + 1 = b4 at *
  generalize hw2 : w.heap.size = b3 at *
  have p4 := c4.1
  have r4 := c4.2
  have l4 := c4.lt
  have l3 := Flat.cell_lt c3
  by_cases hlen : 100 < len0
  · have hlenI : (100 : Int) < (len0 : Int) := by omega
    gi_wp2_with fail
    have k4 := (c4.set (.bool true)).heap (W' := (v3.setCell ⟨b4, 0, none⟩ (.bool true)).alloc (.cells #[.pointer (some ⟨g, 0, none⟩)] 49)) (Below.heap_alloc _ _ _ (by simpa using l4))
    refine ⟨_, fin_bool rfl _ _ b4 true rfl k4.1, rfl, ?_⟩
    rw [hw2]
    exact (hB3.setCell (p := ⟨b4, 0, none⟩) (by show b3 ≤ b4; omega) _).alloc (by simp; omega) _
  · have hlenI : ¬ (100 : Int) < (len0 : Int) := by omega
    gi_wp2_with fail
    have hbl3 := hbx.lt
    generalize hv5 : World.alloc v3 _ = v5
    have hb5 : Below v3.heap.size v3 v5 := by rw [← hv5]; exact (Below.refl _ v3).alloc (Nat.le_refl _) _
    have c5 : At v5 v3.heap.size (.pointer (some ⟨g, 0, none⟩)) := by rw [← hv5]; exact at_new _ _ _
    have hs5 : v5.heap.size = v3.heap.size + 1 := by rw [← hv5]; simp
    have c3 := (hb5.cell (p := ⟨b3, 0, none⟩) l3).trans c3
    have c4 := c4.heap (hb5.block _ c4.lt)
    have hbx := hbx.below hb5
    have hB5 := hB3.trans (hb5.mono (by omega))
    clear hv5 p4 r4 hb5 hB3
    generalize hb5e : v3.heap.size = b5 at *
    have hb5g := hbx.lt
    gi_loopw [28] (fun i wr => ∃ (k : Nat) (f : Int → Option Value) (c : Nat), k ≤ len0 ∧ i = .int .i64 (k : Int) ∧ c ≤ k ∧ Box wr g bn f c ∧ (∀ t v, f t = some v → v = .string X) ∧ wr.cell? ⟨b3, 0, none⟩ = some (.int .u8 (st : Int)) ∧ At wr b4 (.bool false) ∧ At wr b5 (.pointer (some ⟨g, 0, none⟩)) ∧ Below b3 w wr ∧ v5.heap.size ≤ wr.heap.size) (fun i _ => len0 - (intOf i).toNat)
    case atStart => exact ⟨0, MapV.none_, 0, Nat.zero_le _, rfl, Nat.le_refl _, hbx, fun t v h => (by cases h), c3, c4, c5, hB5, Nat.le_refl _⟩
    case round =>
      obtain ⟨wo, h_wo⟩ : ∃ v : World, v = wr := ⟨_, rfl⟩; subst h_wo
      clear hbx c3 c4 c5
      obtain ⟨k, f, c, hk, rfl, hc, hbx, hX, c3, c4, c5, hB, hsz⟩ := hrel
      have p5 := c5.1
      have l5 := c5.lt
      by_cases hkl : k < len0
      · obtain ⟨b, off, hab, hbw, hcells⟩ := rows_cells w0 (by omega)
        subst hab
        obtain ⟨t, key, v, ht, hkey, hv, d0, d1, d2⟩ := hcells k hkl
        rw [← hB.cell (p := ⟨b, _, none⟩) (by rw [← hw2]; exact hbw)] at d0 d1 d2
        clear hcells
        have hkI : (k : Int) < (len0 : Int) := by omega
        have hk100 : k < 100 := by omega
        have hbr : b < wo.heap.size := by have := hB.size; omega
        gi_wp2_with fail
        generalize h4 : World.alloc wo _ = w4
        obtain ⟨B4, z4, _⟩ := alloc_facts h4
        clear h4
        have hg4 := Chg.of_below (L := [bn]) B4
        refine (callsIn_wide.2 (set_any (v := X) w4 (hbx.below B4) hv (by omega))).mono ?_
        rintro e w5 ⟨rfl, hb5, hg5⟩
        have hch := hg4.trans (Chg.grown hg5 (by simp))
        clear d0 d1 d2
        gi_wp2_with fail
        go_roundw
        case rel =>
          refine ⟨k + 1, _, _, by omega, by go_num, ?_, hb5, fun t v h => ?_, ?_, c4.chg hch (by simp; omega), c5.chg hch (by simp; omega), hch.below hB (by omega) (by simp; omega), Nat.le_trans hsz hch.size⟩
          · split <;> omega
          · unfold MapV.set at h
            split at h
            · cases h; rfl
            · exact hX t v h
          · exact (World.cell?_of_block (a := ⟨b3, 0, none⟩) (hch.block b3 (by omega) (by simp; omega))).trans c3
        case measure => simp [intOf]; omega
      · obtain rfl : k = len0 := by omega
        have hkI : ¬ (k : Int) < (k : Int) := by omega
        gi_wp2_with fail
        refine (callsIn_wide.2 (len_any wo hbx)).mono ?_
        rintro e wo ⟨rfl, rfl⟩
        have q5 : ∀ o1 o2 o3, (((wo.alloc o1).alloc o2).alloc o3).cell? ⟨b5, 0, none⟩ = some (.pointer (some ⟨g, 0, none⟩)) := fun o1 o2 o3 => (((((Below.refl wo.heap.size wo).alloc (Nat.le_refl _) o1).alloc (by simp) o2).alloc (by simp; omega) o3).cell (p := ⟨b5, 0, none⟩) l5).trans p5
        gi_wp2_with fail
        generalize hv9 : World.alloc (World.alloc (World.alloc wo _) _) _ = v9
        have hb9 : Below wo.heap.size wo v9 := by rw [← hv9]; exact (((Below.refl wo.heap.size wo).alloc (Nat.le_refl _) _).alloc (by simp) _).alloc (by simp; omega) _
        have hs9 : v9.heap.size = wo.heap.size + 3 := by rw [← hv9]; simp
        have n8 : At v9 wo.heap.size (.int .i64 (c : Int)) := by
          have k := ((at_new wo (.int .i64 (c : Int)) 3).heap (Below.heap_alloc _ (.cells #[.int .i64 0] 3) _ (by simp))).heap (Below.heap_alloc _ (.cells #[.int .i64 0] 2) _ (by simp; omega))
          rw [hv9] at k
          exact k
        have n9 : At v9 (wo.heap.size + 1) (.int .i64 0) := by
          have k := (at_new (wo.alloc (.cells #[.int .i64 (c : Int)] 3)) (.int .i64 0) 3)
          rw [World.size_alloc] at k
          have k2 := k.heap (Below.heap_alloc _ (.cells #[.int .i64 0] 2) _ (by simp))
          rw [hv9] at k2
          exact k2
        have n10 : At v9 (wo.heap.size + 1 + 1) (.int .i64 0) := by
          have k := at_new ((wo.alloc (.cells #[.int .i64 (c : Int)] 3)).alloc (.cells #[.int .i64 0] 3)) (.int .i64 0) 2
          simp only [World.size_alloc] at k
          rw [hv9] at k
          exact k
        have hbl := hbx.lt
        have hl3 := Flat.cell_lt c3
        have hl4 := c4.lt
        have c3 := (hb9.cell (p := ⟨b3, 0, none⟩) hl3).trans c3
        have c4 := c4.heap (hb9.block _ hl4)
        have c5 := c5.heap (hb9.block _ l5)
        have hbx := hbx.below hb9
        have hB9 := hB.trans (hb9.mono (by have := hB.size; omega))
        clear hv9 q5 hB
        refine (callsIn_wide.2 (all_any v9 hbx)).mono ?_
        rintro e v10 ⟨B, mb, rfl, hcB, hom, hB0, hm0, hb10⟩
        gi_wp2_with fail
        have hs10 := hb10.size
        have lcB := Flat.cell_lt hcB
        have lmb := MapV.Own.lt hom
        have hbl9 := hbx.lt
        have hp0 : Low ⟨b3, b4, b5, wo.heap.size, wo.heap.size + 1, wo.heap.size + 1 + 1, g, bn⟩ v9.heap.size := ⟨by show b3 < _; omega, by show b4 < _; omega, by show b5 < _; omega, by show wo.heap.size < _; omega, by show wo.heap.size + 1 < _; omega, by show wo.heap.size + 1 + 1 < _; omega, hbl9.1, hbl9.2⟩
        have hl10 : Low ⟨b3, b4, b5, wo.heap.size, wo.heap.size + 1, wo.heap.size + 1 + 1, g, bn⟩ v10.heap.size := ⟨Nat.lt_of_lt_of_le hp0.b3 hs10, Nat.lt_of_lt_of_le hp0.b4 hs10, Nat.lt_of_lt_of_le hp0.b5 hs10, Nat.lt_of_lt_of_le hp0.b8 hs10, Nat.lt_of_lt_of_le hp0.b9 hs10, Nat.lt_of_lt_of_le hp0.b10 hs10, Nat.lt_of_lt_of_le hp0.g hs10, Nat.lt_of_lt_of_le hp0.bn hs10⟩
        have hSt0 : St w ⟨b3, b4, b5, wo.heap.size, wo.heap.size + 1, wo.heap.size + 1 + 1, g, bn⟩ st c c v10 [] := by
          have k : St w ⟨b3, b4, b5, wo.heap.size, wo.heap.size + 1, wo.heap.size + 1 + 1, g, bn⟩ st c c v9 [] := ⟨c3, c4, c5, n8, n9, n10, ⟨f, c, hbx, by simp⟩, hB9⟩
          exact k.grown hp0 (t := none) ⟨hb10.os, hb10.tape, hb10.output, hb10.size, fun i hi _ => hb10.block i hi⟩ (fun r e => by cases e) (by show b3 ≤ _; omega)
        have hne : wo.heap.size + 1 ≠ b4 ∧ wo.heap.size + 1 + 1 ≠ b4 ∧ wo.heap.size + 1 ≠ bn ∧ wo.heap.size + 1 + 1 ≠ bn ∧ b4 ≠ bn ∧ b5 ≠ bn ∧ wo.heap.size ≠ bn := by omega
        generalize hpe : (⟨b3, b4, b5, wo.heap.size, wo.heap.size + 1, wo.heap.size + 1 + 1, g, bn⟩ : Pl) = p at *
        have hpw : p.b3 ≤ w.heap.size := by rw [← hpe]; show b3 ≤ _; omega
        have hc100 : c ≤ 100 := by omega
        refine range_set (n := 12) rfl (by omega) (gf := 40) (lb := #[.pointer (some ⟨B, 0, none⟩)]) rfl trivial (enters_of Try.func40 (by kernel_rfl) rfl)
          (all1_any X hX 11 (by omega) B v10 (by omega) hcB hom) (fun h k => ⟨Eq.trans k.1 h.1, Eq.trans k.2 h.2⟩) (fun V V' t hz hg ht => ⟨hg.block B (by omega) (fun e => absurd (ht B e.symm) (by omega)), hg.block mb (by omega) (fun e => absurd (ht mb e.symm) (by omega))⟩) (Below.refl _ _) (fun _ => rfl) (fun _ => ⟨rfl, rfl⟩)
          (fun pre row V => row = none ∧ St w p st c c V pre ∧ v10.heap.size ≤ V.heap.size ∧ (st = 0 ∨ pre.length < st))
          (fun cd pre row V => row = none ∧ ((cd = .ret ∧ ∀ zs, Keys f c zs → ¬ pre <+: zs.map (pr f X)) ∨ (cd = .exit 2 ∧ St w p st c c V pre ∧ v10.heap.size ≤ V.heap.size ∧ pre.length = st ∧ 0 < st)))
          (fun s row V V' t hs hg ht => ⟨hs.1, hs.2.1.grown hl10 hg (fun r e => (ht r e).1) hpw, Nat.le_trans hs.2.2.1 hg.size, hs.2.2.2⟩)
          (fun cd s row V V' t hs hg ht => ⟨hs.1, hs.2.imp id (fun h => ⟨h.1, h.2.1.grown hl10 hg (fun r e => (ht r e).1) hpw, Nat.le_trans h.2.2.1 hg.size, h.2.2.2⟩)⟩)
          (fun s row V hs r e => by rw [hs.1] at e; cases e) none (fun r e => by cases e) ⟨rfl, hSt0, Nat.le_refl _, by simp; omega⟩
          (fun x T => (T.setIfInBounds 11 (.int .i64 x.1.1)).setIfInBounds 12 (.string x.2)) ?assign ?body ?done ?stop
        case assign =>
          intro l x V K hK
          simp at hK
          gi_wp2
          exact hK
        case body =>
          rintro l pre row ⟨z, v⟩ V hl ⟨rfl, hSt, hsv, hst2⟩ hlen
          subst hpe
          obtain ⟨c3, c4, c5, c8, c9, c10, ⟨f', c', hbx', hc'⟩, hbw⟩ := hSt
          dsimp only at c3 c4 c5 c8 c9 c10 hbx' hbw
          have hnv : ∀ (h : v ≠ X) zs, Keys f c zs → ¬ pre ++ [(z, v)] <+: zs.map (pr f X) := fun h zs hK hp => h (pre_val hK hp)
          have hnr : ∀ (h1 : pre ≠ []) (h : z.1 ≤ lastOf pre) zs, Keys f c zs → ¬ pre ++ [(z, v)] <+: zs.map (pr f X) := fun h1 h zs hK hp => by
            have k : lastOf pre < z.1 := pre_rise hK hp h1
            omega
          have hlz : (pre ++ [(z, v)]).length = pre.length + 1 := by simp
          have hla : lastOf (pre ++ [(z, v)]) = z.1 := lastOf_snoc _ _
          have hpne : pre ≠ [] ↔ 0 < pre.length := by rw [List.length_pos_iff]
          have hzw := z.2
          have hwm : (Lit.int .i64 (lastOf pre)).wf = true := last_wf pre
          generalize hm : pre.length = m at *
          generalize hle : lastOf pre = la at *
          obtain ⟨z, hz⟩ := z
          dsimp only at hnr hla hzw
          have p3 := c3
          have p4 := c4.1
          have r4 := c4.2
          have p5 := c5.1
          have p8 := c8.1
          have p9 := c9.1
          have r9 := c9.2
          have p10 := c10.1
          have r10 := c10.2
          have hm100 : m < 100 := by omega
          have hB9' : v9.heap.size ≤ v10.heap.size := hs10
          have hchg : ∀ V', Chg [wo.heap.size + 1, wo.heap.size + 1 + 1, bn] V V' → Keep v10.heap.size none V V' ∧ Same B V V' ∧ Same mb V V' ∧ V'.cell? ⟨b3, 0, none⟩ = some (.int .u8 (st : Int)) ∧ At V' b4 (.bool false) ∧ At V' b5 (.pointer (some ⟨g, 0, none⟩)) ∧ At V' wo.heap.size (.int .i64 (c : Int)) ∧ Below b3 w V' := fun V' h => by
            refine ⟨h.keep (by simp; omega) none, h.block B (by omega) (by simp; omega), h.block mb (by omega) (by simp; omega), (World.cell?_of_block (a := ⟨b3, 0, none⟩) (h.block b3 (Flat.cell_lt c3) (by simp; omega))).trans c3, c4.chg h (by simp; omega), c5.chg h (by simp; omega), c8.chg h (by simp; omega), h.below hbw (by omega) (by simp; omega)⟩
          by_cases hv : v = X
          · subst hv
            by_cases hbad : 0 < m ∧ z ≤ la
            · obtain ⟨hm0, hzl⟩ := hbad
              have hmI : (0 : Int) < (m : Int) := by omega
              gi_wp2_with fail
              exact ⟨none, .inl rfl, (Chg.cell [b4] V b4 0 _ (by simp)).keep (by simp; omega) none, rfl, .inl ⟨rfl, hnr (hpne.2 hm0) hzl⟩⟩
            · have hpass : m = 0 ∨ (0 < m ∧ ¬ z ≤ la) := by omega
              have hmc : ¬ (c : Int) ≤ (m : Int) := by omega
              clear hnv hnr hbad
              rcases hpass with hm0 | ⟨hm0, hzl⟩
              all_goals
                first
                  | (have hmJ : ¬ (0 : Int) < (m : Int) := by omega)
                  | (have hmJ : (0 : Int) < (m : Int) := by omega)
                clear hm0
                gi_wp2_with fail
                generalize hV2 : World.setCell (World.setCell V _ _) _ _ = V2
                have ch2 : Chg [wo.heap.size + 1, wo.heap.size + 1 + 1] V V2 := by rw [← hV2]; exact (Chg.cell _ V _ 0 _ (by simp)).trans (Chg.cell _ _ _ 0 _ (by simp))
                have n9 : At V2 (wo.heap.size + 1) (.int .i64 ((m : Int) + 1)) := by rw [← hV2]; exact (c9.heap (W' := V.setCell ⟨wo.heap.size + 1 + 1, 0, none⟩ (.int .i64 z)) (Below.heap_setCell _ ⟨wo.heap.size + 1 + 1, 0, none⟩ _ (wo.heap.size + 1) (by show wo.heap.size + 1 ≠ wo.heap.size + 1 + 1; omega))).set _
                have n10 : At V2 (wo.heap.size + 1 + 1) (.int .i64 z) := by rw [← hV2]; exact (c10.set _).heap (Below.heap_setCell _ ⟨wo.heap.size + 1, 0, none⟩ _ (wo.heap.size + 1 + 1) (by show wo.heap.size + 1 + 1 ≠ wo.heap.size + 1; omega))
                have bx2 := hbx'.chg ch2 (by simp; omega) (by simp; omega)
                clear hV2
                refine (CallsIn.inRound l (callsIn_wide.2 (drop_any V2 bx2 hzw))).mono ?_
                rintro e V3 ⟨⟨v0, rfl⟩, ⟨f3, c3', hc3', bx3⟩, hg3⟩
                have ch3 := Chg.grown (L := [bn]) hg3 (by simp)
                have n9 := n9.chg ch3 (by simp; omega)
                have n10 := n10.chg ch3 (by simp; omega)
                have n5 := ((c5.chg ch2 (by simp; omega)).chg ch3 (by simp; omega)).1
                gi_wp2_with fail
                refine (CallsIn.inRound l (callsIn_wide.2 (set_any (v := (⟨#[121]⟩ : ByteArray)) V3 bx3 (wrap64_wf _) (by omega)))).mono ?_
                rintro e V4 ⟨rfl, bx4, hg4⟩
                have ch4 := Chg.grown (L := [bn]) hg4 (by simp)
                have n9 := n9.chg ch4 (by simp; omega)
                have n10 := n10.chg ch4 (by simp; omega)
                have chA : Chg [wo.heap.size + 1, wo.heap.size + 1 + 1, bn] V V4 := ((ch2.more (by simp)).trans (ch3.more (by simp))).trans (ch4.more (by simp))
                obtain ⟨k1, k2, k3, k4, k5, k6, k7, k8⟩ := hchg V4 chA
                have q9 := n9.1
                have hlzI : (((pre ++ [((⟨z, hz⟩ : I64), X)]).length : Nat) : Int) = (m : Int) + 1 := by rw [hlz]; omega
                have hStN : St w ⟨b3, b4, b5, wo.heap.size, wo.heap.size + 1, wo.heap.size + 1 + 1, g, bn⟩ st c c V4 (pre ++ [((⟨z, hz⟩ : I64), X)]) := ⟨k4, k5, k6, k7, by rw [hlzI]; exact n9, by rw [hla]; exact n10, ⟨_, _, bx4, by rw [hlz]; split <;> omega⟩, k8⟩
                have szA := Nat.le_trans hsv chA.size
                clear n9 n10 bx4 bx3 bx2 ch2 ch3 ch4 chA hg3 hg4 n5 hchg
                by_cases hst3 : m + 1 = st
                · have hI : ((m : Int) + 1 == (st : Int)) = true := by rw [beq_iff_eq]; omega
                  gi_wp2_with fail
                  exact ⟨none, .inl rfl, k1, rfl, .inr ⟨rfl, hStN, szA, hlz.trans hst3, by omega⟩⟩
                · have hI : ((m : Int) + 1 == (st : Int)) = false := by rw [beq_eq_false_iff_ne]; omega
                  gi_wp2_with fail
                  exact ⟨none, .inl rfl, k1, ⟨k2, k3⟩, rfl, hStN, szA, by rw [hlz]; omega⟩
          · have hvl : ¬ v.toList = [120] := fun h => hv (by
              rw [ByteArray.toList_eq] at h
              cases v
              congr 1
              exact Array.toList_inj.1 h)
            have hvb : (v.toList == [120]) = false := beq_eq_false_iff_ne.2 hvl
            gi_wp2_with fail
            exact ⟨none, .inl rfl, (Chg.cell [b4] V b4 0 _ (by simp)).keep (by simp; omega) none, rfl, .inl ⟨rfl, hnv hv⟩⟩
        case done =>
          rintro D xs row V hD ⟨zs, hK, rfl⟩ ⟨rfl, hSt, hsv, hst2⟩ _ hk
          have hlz : (zs.map (pr f X)).length = c := by rw [List.length_map, hK.len]
          subst hpe
          obtain ⟨c3, c4, c5, c8, c9, c10, _, hbw⟩ := hSt
          dsimp only at c3 c4 c8 c9 hbw
          rw [hlz] at c9 hst2
          have p4 := c4.1
          have r4 := c4.2
          have p8 := c8.1
          have p9 := c9.1
          have e4 : b4 ≠ D := by omega
          have kD : ∀ x, (V.setCell ⟨b4, 0, none⟩ x).heap[D]? = some (.deferred (some [])) := fun x => (Below.heap_setCell _ _ _ _ (fun e => e4 e.symm)).trans hk
          have kc : ∀ x, ((V.setCell ⟨b4, 0, none⟩ x).putObj D (.deferred none)).cell? ⟨b4, 0, none⟩ = some x := fun x => (put_cell (by simpa using c4.lt) e4).trans (c4.set x).1
          have kB : ∀ x, Below b3 w ((V.setCell ⟨b4, 0, none⟩ x).putObj D (.deferred none)) := fun x => by
            exact (hbw.setCell (p := ⟨b4, 0, none⟩) (by show b3 ≤ b4; omega) x).grown (grownBy_putObj' _ D _) (by have := hbw.size; simp; omega) (fun k e => by cases e; omega)
          by_cases hst0 : st = 0
          · have hsI : ¬ (0 : Int) < (st : Int) := by omega
            gi_wp2_with fail
            refine ⟨by simp, .inl ⟨_, _, rfl, run_takeDeferred (kD _), ?_⟩⟩
            exact ⟨_, fin_bool rfl _ _ b4 true rfl (by simpa using kc (.bool true)), rfl, by simpa using kB (.bool true)⟩
          · have hsI : (0 : Int) < (st : Int) := by omega
            have hmin : min (c : Int) (st : Int) = (c : Int) := by omega
            gi_wp2_with fail
            refine ⟨by simp, .inl ⟨_, _, rfl, run_takeDeferred (kD _), ?_⟩⟩
            exact ⟨_, fin_bool rfl _ _ b4 true rfl (by simpa using kc (.bool true)), rfl, by simpa using kB (.bool true)⟩
        case stop =>
          rintro D cd pre row V hD ⟨zs, hK, hpre⟩ ⟨rfl, hIx⟩ _ hk
          rcases hIx with ⟨rfl, hno⟩ | ⟨rfl, hSt, hsv, hms, hst0⟩
          · exact absurd hpre (hno zs hK)
          · have hlz := pre_len hK hpre
            subst hpe
            obtain ⟨c3, c4, c5, c8, c9, c10, _, hbw⟩ := hSt
            dsimp only at c3 c4 c8 c9 hbw
            rw [hms] at c9 hlz
            have p4 := c4.1
            have r4 := c4.2
            have p8 := c8.1
            have p9 := c9.1
            have e4 : b4 ≠ D := by omega
            have kD : ∀ x, (V.setCell ⟨b4, 0, none⟩ x).heap[D]? = some (.deferred (some [])) := fun x => (Below.heap_setCell _ _ _ _ (fun e => e4 e.symm)).trans hk
            have kc : ∀ x, ((V.setCell ⟨b4, 0, none⟩ x).putObj D (.deferred none)).cell? ⟨b4, 0, none⟩ = some x := fun x => (put_cell (by simpa using c4.lt) e4).trans (c4.set x).1
            have kB : ∀ x, Below b3 w ((V.setCell ⟨b4, 0, none⟩ x).putObj D (.deferred none)) := fun x => by
              exact (hbw.setCell (p := ⟨b4, 0, none⟩) (by show b3 ≤ b4; omega) x).grown (grownBy_putObj' _ D _) (by have := hbw.size; simp; omega) (fun k e => by cases e; omega)
            have hsI : (0 : Int) < (st : Int) := by omega
            have hmin : min (c : Int) (st : Int) = (st : Int) := by omega
            gi_wp2_with fail
            refine ⟨by simp, .inl ⟨_, _, rfl, run_takeDeferred (kD _), ?_⟩⟩
            exact ⟨_, fin_bool rfl _ _ b4 true rfl (by simpa using kc (.bool true)), rfl, by simpa using kB (.bool true)⟩
end Go.Proofs.Ytcenfolmajegeaa.LCellsThrough
