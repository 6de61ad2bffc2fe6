/- What chair's begun answers. -/
import Derived.Test.YtdlfjbllmmkmkaaTallyNew
import Derived.Test.YtdlfjbllmmkmkaaBytesOwn
namespace Go.Proofs.Ytdlfjbllmmkmkaa.Chair
open Go.RowKit Flat ChairSpec Go.Proofs.YtdlfjbllmmkmkaaW.PrintLast ByteMem
set_option linter.unusedSimpArgs false
set_option linter.unusedVariables false
set_option maxRecDepth 100000
/-- The mobiles below k that a byte says. -/
def ids (x : Int) (k : Nat) : List UInt8 := ((List.range k).filter (bit x)).map UInt8.ofNat
theorem ids_succ (x : Int) (k : Nat) : ids x (k + 1) = ids x k ++ (if bit x k then [UInt8.ofNat k] else []) := by
  rw [ids, List.range_succ, List.filter_append, List.map_append]
  congr 1
  cases h : bit x k <;> simp [h]
theorem ids_len (x : Int) (k : Nat) : (ids x k).length ≤ k := by
  rw [ids, List.length_map]
  exact Nat.le_trans (List.length_filter_le _ _) (by simp)
theorem ids_mem {x : Int} {k : Nat} (hk : k ≤ 8) {c : UInt8} (h : c ∈ ids x k) : c.toNat < k ∧ bit x c.toNat = true := by
  obtain ⟨i, hi, rfl⟩ := List.mem_map.1 h
  obtain ⟨h1, h2⟩ := List.mem_filter.1 hi
  have h3 := List.mem_range.1 h1
  have e : (UInt8.ofNat i).toNat = i := by rw [UInt8.toNat_ofNat']; omega
  rw [e]; exact ⟨h3, h2⟩
theorem ids_nodup (x : Int) (k : Nat) (hk : k ≤ 8) : (ids x k).Nodup := by
  induction k with
  | zero => simp [ids]
  | succ k ih =>
    rw [ids_succ]
    split
    · refine List.nodup_append.2 ⟨ih (by omega), by simp, ?_⟩
      intro a ha b hb e
      obtain rfl : b = UInt8.ofNat k := by simpa using hb
      subst e
      have h1 := (ids_mem (by omega) ha).1
      rw [UInt8.toNat_ofNat'] at h1
      omega
    · rw [List.append_nil]; exact ih (by omega)
theorem among_ids (x : Int) (i : Nat) (hi : i < 8) : among (ids x 8) i = bit x i := by
  cases h : bit x i
  · rw [among, List.any_eq_false]
    intro c hc
    have := (ids_mem (Nat.le_refl 8) hc).2
    simp only [beq_iff_eq]
    rintro rfl
    rw [this] at h; cases h
  · rw [among, List.any_eq_true]
    refine ⟨UInt8.ofNat i, List.mem_map.2 ⟨i, List.mem_filter.2 ⟨List.mem_range.2 hi, h⟩, rfl⟩, ?_⟩
    rw [UInt8.toNat_ofNat']
    simp; omega
theorem slice_of {w : World} {B n k : Nat} {e : TypeId} {v : Value} {l : List Value} (h : w.ownsRow B e k v n l) : ∃ a cap, v = .slice a n cap := by
  rcases h.2 with ⟨h1, h2⟩ | ⟨g, cap, cur, h1, _⟩
  · exact ⟨none, 0, by rw [h1, h2]⟩
  · exact ⟨_, cap, h1⟩
theorem bit_ok (n k : Nat) (hn : n ≤ 255) (hk : k < 8) : (bits .and .u8 ((n : Int) / 2 ^ k) 1 == 1) = bit (n : Int) k := by
  have h : ∀ n : Fin 256, ∀ k : Fin 8, (bits .and .u8 ((n.val : Int) / 2 ^ k.val) 1 == 1) = bit (n.val : Int) k.val := by decide +kernel
  exact h ⟨n, by omega⟩ ⟨k, hk⟩
theorem new_byte {w : World} {k : Nat} {t : TypeId} {j : Nat} {u : Value} (h : [Value.int .u8 (k : Int)][j]? = some u) : (w.alloc (.cells #[.int .u8 (k : Int)] t)).cell? ((⟨w.heap.size, 0, none⟩ : Addr).add j) = some u := by
  have e : ((⟨w.heap.size, 0, none⟩ : Addr).add j) = ⟨w.heap.size, j, none⟩ := by unfold Addr.add; split <;> simp_all
  rw [e, World.cell?_alloc_new]
  simpa using h
theorem built_de (u : Ta) (x : Te) : Try.prog.built 44 [(0, .agg (tc u).toArray), (1, .agg (tec x).toArray)] = some (dc ⟨u, x, 0⟩).toArray := by kernel_rfl
theorem wpList_build_de {ops : Array Oper} {rest : List Oper} {o : Oper} {a : Act} {w : World} {Q : Exit → Act → World → Prop} (hg : o.guard = none) (x y : Operand) (ho : o.op = .build 44 #[(0, x), (1, y)]) (u : Ta) (t : Te)
    (hx : a.eval x = .agg (tc u).toArray) (hy : a.eval y = .agg (tec t).toArray) (h : wpList Try.prog ops Q rest (a.put o.dst (.agg (dc ⟨u, t, 0⟩).toArray)) w) : wpList Try.prog ops Q (o :: rest) a w := by
  have e : Try.prog.built 44 ((#[(0, x), (1, y)] : Array (Nat × Operand)).map fun (i, x) => (i, a.eval x)).toList = some (dc ⟨u, t, 0⟩).toArray := by
    simp only [List.map_toArray, List.map_cons, List.map_nil, hx, hy]
    exact built_de u t
  refine wpList_build hg 44 _ ho (by rw [e]; rfl) ?_
  rw [e]
  exact h
theorem tc_congr {a b : Ta} (h1 : ∀ i, i < 8 → a.who i = b.who i) (h2 : ∀ i, i < 8 → a.votes i = b.votes i) (h3 : ∀ i, i < 8 → a.epochs i = b.epochs i) : tc a = tc b := by
  have e1 : wc a = wc b := List.map_congr_left fun i hi => by rw [h1 i (List.mem_range.1 hi)]
  have e2 : vc a = vc b := List.map_congr_left fun i hi => by rw [h2 i (List.mem_range.1 hi)]
  have e3 : ec a = ec b := List.map_congr_left fun i hi => by rw [h3 i (List.mem_range.1 hi)]
  rw [tc, tc, e1, e2, e3]
theorem tc_newT (n : Nat) : tc (zTa (among (ids n 8))) = tc (newT n) := tc_congr (fun i hi => among_ids n i hi) (fun _ _ => rfl) (fun _ _ => rfl)
theorem ids_nil (n : Nat) : ids n 8 = [] ↔ (List.range 8).any (bit n) = false := by
  rw [List.any_eq_false]
  constructor
  · intro h i hi hb
    have := among_ids n i (List.mem_range.1 hi)
    rw [h, hb] at this
    cases this
  · intro h
    cases e : ids n 8 with
    | nil => rfl
    | cons c l =>
      have hc : c ∈ ids n 8 := by rw [e]; simp
      obtain ⟨h1, h2⟩ := ids_mem (Nat.le_refl 8) hc
      exact absurd h2 (h _ (List.mem_range.2 h1))
set_option maxHeartbeats 8000000 in
theorem begun_re (r : Re) (n : Nat) (hr : r.who = (n : Int)) (hn : n ≤ 255) (w : World) : Calls Try.prog 33 #[.agg #[.int .i64 r.kind, .int .i64 r.tx, .int .u8 r.who, .int .i64 r.epoch, .int .i64 r.vote, .int .i64 r.now, .int .i64 r.span, .int .i64 r.cap]] w fun e w' => e = .returned (.tuple #[.agg (dc (begunD r).1).toArray, .int .i64 (begunD r).2]) ∧ Below w.heap.size w w' := by
  obtain ⟨kd, tx, who, ep, vt, now, sp, cp⟩ := r
  dsimp only at *
  subst hr
  go_enter Try.func33, Try.ntmps33
  go_wp2_with fail
  generalize hv1 : World.alloc w _ = v1
  generalize hv2 : World.alloc v1 _ = v2
  obtain ⟨hb1, hz1, hc1⟩ := alloc_facts hv1
  obtain ⟨hb2, hz2, hc2⟩ := alloc_facts hv2
  have hs1 : v1.heap.size = w.heap.size + 1 := by rw [← hv1]; simp
  have hR2 : ∀ i, v2.cell? ⟨w.heap.size, i, none⟩ = _ := fun i => (hb2.cell (p := ⟨w.heap.size, i, none⟩) hz1).trans (hc1 i)
  have HR2 := Lib.hid hR2
  have ht2 : v2.there (w.heap.size + 1) 0 29 := fun j hj => by
    rw [Nat.zero_add, ← hs1]
    refine ⟨?_, by rw [← hv2]; exact World.frozen?_alloc_at _ _ _ _ rfl⟩
    rw [hc2 j, Array.getElem?_eq_getElem hj]; rfl
  have HT2 := Lib.hid ht2
  have HB2 := Lib.hid (hb1.trans (hb2.mono (by omega)))
  clear hv1 hv2 hb1 hb2 hc1 hc2 hR2 ht2
  have hz22 : w.heap.size + 1 < v2.heap.size := by omega
  clear hz1 hz2 hs1
  go_loopw [4, 9] (fun o i wr => ∃ k : Nat, k ≤ 8 ∧ i = .int .u8 (k : Int) ∧ wr.ownsRow v2.heap.size 5 1 o (ids n k).length (bcl (ids n k)) ∧ Below v2.heap.size v2 wr) (fun _ i _ => 8 - (intOf i).toNat)
  case atStart => exact ⟨0, by omega, rfl, World.ownsRow_nil _ _ _ _, Below.refl _ _⟩
  case round =>
    obtain ⟨wo, h_wo⟩ : ∃ v : World, v = wr := ⟨_, rfl⟩; subst h_wo
    obtain ⟨k, hk, rfl, how, hB⟩ := hrel
    have HOW := Lib.hid how
    have HB := Lib.hid hB
    have q2 := (hB.cell (p := ⟨w.heap.size, 2, none⟩) (by show w.heap.size < _; omega)).trans (HR2.out 2)
    clear how hB
    by_cases hk8 : k = 8
    · have hkI : ¬ (k : Int) < 8 := by omega
      subst hk8
      obtain ⟨a0, c0, rfl, hlc, hcm, hib⟩ := own_isb HOW.out
      have hlen8 := ids_len n 8
      have HN := Lib.hid (new_ta_any wo a0 c0 (ids n 8) hib (fun c hc => (ids_mem (Nat.le_refl 8) hc).1) (ids_nodup n 8 (Nat.le_refl 8)) hlen8)
      have q5 := (HB.out.cell (p := ⟨w.heap.size, 5, none⟩) (by show w.heap.size < _; omega)).trans (HR2.out 5)
      have q6 := (HB.out.cell (p := ⟨w.heap.size, 6, none⟩) (by show w.heap.size < _; omega)).trans (HR2.out 6)
      have q7 := (HB.out.cell (p := ⟨w.heap.size, 7, none⟩) (by show w.heap.size < _; omega)).trans (HR2.out 7)
      have hwv := HB.out.size
      clear hib hlc hcm q2
      have hkI8 : ¬ (((8 : Nat) : Int)) < 8 := by decide
      go_wp2_with fail
      refine HN.out.mono ?_
      rintro e4 v4 ⟨rfl, hb4⟩
      have q5' := (hb4.cell (p := ⟨w.heap.size, 5, none⟩) (by show w.heap.size < _; omega)).trans q5
      have q6' := (hb4.cell (p := ⟨w.heap.size, 6, none⟩) (by show w.heap.size < _; omega)).trans q6
      have q7' := (hb4.cell (p := ⟨w.heap.size, 7, none⟩) (by show w.heap.size < _; omega)).trans q7
      have HT4 := Lib.hid (there_below (there_below HT2.out HB.out) hb4)
      have HB4 := Lib.hid ((HB2.out.trans (HB.out.mono (by omega))).trans (hb4.mono (by omega)))
      have hz4 : w.heap.size + 1 < v4.heap.size := by have := hb4.size; omega
      have HNEW := Lib.hid (fun B hB => there_new v4 B 40 hB)
      clear hb4 q5 q6 q7 HOW HB HR2 HT2 HB2
      by_cases hnil : ids n 8 = []
      · have HP : Hid (newPair (ids n 8) = (zTa fun _ => false, 2)) := Lib.hid (by rw [newPair, if_pos hnil])
        have HG : Hid (begunD ⟨kd, tx, n, ep, vt, now, sp, cp⟩ = (⟨zTa fun _ => false, ⟨0, 0, 0, 0⟩, 0⟩, 2)) := Lib.hid (by rw [begunD, if_pos ((ids_nil n).1 hnil)]; rfl)
        rw [HP.out]
        clear hnil hlen8 HN
        go_upto_if 29 with (first | (refine wpList_store_mid rfl 40 _ _ rfl (v4.heap.size) 0 (tc (zTa fun _ => false)).toArray (by rfl) (by rfl) (HNEW.out _ rfl) infoTa (all_oneCell_toArray (tc_one _)) ?_; generalize hw6 : World.setCells _ _ _ _ = w6 at *))
        obtain ⟨hb6, hz6, hU6, hth6⟩ := new_ta (zTa fun _ => false) rfl hw6
        have HT6 := Lib.hid (there_below HT4.out hb6)
        have HB6 := Lib.hid (HB4.out.trans (hb6.mono (by omega)))
        have HU6 := Lib.hid (show w6.rangeAt v4.heap.size 0 (tc (zTa fun _ => false)) from hU6)
        have r5 := (hb6.cell (p := ⟨w.heap.size, 5, none⟩) (by show w.heap.size < _; omega)).trans q5'
        have r6 := (hb6.cell (p := ⟨w.heap.size, 6, none⟩) (by show w.heap.size < _; omega)).trans q6'
        have r7 := (hb6.cell (p := ⟨w.heap.size, 7, none⟩) (by show w.heap.size < _; omega)).trans q7'
        have hz46 : v4.heap.size < w6.heap.size := hz6
        clear hw6 hb6 hU6 hth6 HNEW HT4 HB4 q5' q6' q7'
        go_wp2_with (first | (refine wpList_store_mid rfl 44 _ _ rfl (w.heap.size + 1) 0 (dc (⟨zTa fun _ => false, ⟨0, 0, 0, 0⟩, 0⟩)).toArray (by rfl) (by rfl) (HT6.out) infoDe (all_oneCell_toArray (dc_one _)) ?_; generalize hw9 : World.setCells _ _ _ _ = w9 at *; have HTR := Lib.hid (de_stored' (HT6.out) (⟨zTa fun _ => false, ⟨0, 0, 0, 0⟩, 0⟩) hw9); have HB9 := Lib.hid (below_cells _ _ _ (HB6.out) (Nat.le_succ _) hw9); clear hw9))
        refine bodyPost_ret (fin_de rfl _ _ _ rfl _ HTR.out) rfl ?_
        rw [HG.out]
        exact ⟨rfl, HB9.out⟩
      · have HP : Hid (newPair (ids n 8) = (zTa (among (ids n 8)), 0)) := Lib.hid (by rw [newPair, if_neg hnil])
        have hany : ¬ (List.range 8).any (bit n) = false := fun h => hnil ((ids_nil n).2 h)
        have HG : Hid (begunD ⟨kd, tx, n, ep, vt, now, sp, cp⟩ = (⟨newT n, (newTe now sp cp).1, 0⟩, (newTe now sp cp).2)) := Lib.hid (by rw [begunD, if_neg hany])
        rw [HP.out]
        clear hnil hlen8 HN hany
        go_upto_if 29 with (first | (refine wpList_store_mid rfl 40 _ _ rfl (v4.heap.size) 0 (tc (zTa (among (ids n 8)))).toArray (by rfl) (by rfl) (HNEW.out _ rfl) infoTa (all_oneCell_toArray (tc_one _)) ?_; generalize hw6 : World.setCells _ _ _ _ = w6 at *))
        obtain ⟨hb6, hz6, hU6, hth6⟩ := new_ta (zTa (among (ids n 8))) rfl hw6
        have HT6 := Lib.hid (there_below HT4.out hb6)
        have HB6 := Lib.hid (HB4.out.trans (hb6.mono (by omega)))
        have HU6 := Lib.hid (show w6.rangeAt v4.heap.size 0 (tc (zTa (among (ids n 8)))) from hU6)
        have r5 := (hb6.cell (p := ⟨w.heap.size, 5, none⟩) (by show w.heap.size < _; omega)).trans q5'
        have r6 := (hb6.cell (p := ⟨w.heap.size, 6, none⟩) (by show w.heap.size < _; omega)).trans q6'
        have r7 := (hb6.cell (p := ⟨w.heap.size, 7, none⟩) (by show w.heap.size < _; omega)).trans q7'
        have hz46 : v4.heap.size < w6.heap.size := hz6
        clear hw6 hb6 hU6 hth6 HNEW HT4 HB4 q5' q6' q7'
        have HNT := Lib.hid (fun W => new_te now sp cp W)
        obtain ⟨xx, HXX⟩ : ∃ xx, Hid (newTe now sp cp = xx) := ⟨_, Lib.hid rfl⟩
        rw [HXX.out] at HNT HG
        obtain ⟨x, f⟩ := xx
        dsimp only at HNT HG
        clear HXX
        go_wp2_with fail
        refine (HNT.out _).mono ?_
        rintro e8 v8 ⟨rfl, hb8⟩
        have HT8 := Lib.hid (there_below HT6.out hb8)
        have HB8 := Lib.hid (HB6.out.trans (hb8.mono HB6.out.size))
        have HU8 := Lib.hid (TaAt.below (show TaAt w6 v4.heap.size 0 (zTa (among (ids n 8))) from HU6.out) hb8)
        have hz8 := hb8.size
        clear hb8 r5 r6 r7
        go_wp2_with (first | (refine wpList_load_mid rfl 40 _ rfl (v4.heap.size) 0 rfl (tc (zTa (among (ids n 8)))) _ (World.rangeAt_alloc HU8.out _) Try.underlying40 rfl infoTa ?_) | (refine wpList_build_de rfl _ _ rfl (zTa (among (ids n 8))) x rfl rfl ?_) | (refine wpList_store_mid rfl 44 _ _ rfl (w.heap.size + 1) 0 (dc (⟨zTa (among (ids n 8)), x, 0⟩)).toArray (by rfl) (by rfl) (World.there_alloc HT8.out _) infoDe (all_oneCell_toArray (dc_one _)) ?_; generalize hw9 : World.setCells _ _ _ _ = w9 at *; have HTR := Lib.hid (de_stored' (World.there_alloc HT8.out _) (⟨zTa (among (ids n 8)), x, 0⟩) hw9); have HB9 := Lib.hid (below_cells _ _ _ (HB8.out.alloc HB8.out.size _) (Nat.le_succ _) hw9); clear hw9))
        refine bodyPost_ret (fin_de rfl _ _ _ rfl _ HTR.out) rfl ?_
        rw [HG.out, show dc ⟨newT n, x, 0⟩ = dc ⟨zTa (among (ids n 8)), x, 0⟩ by simp only [dc, tc_newT]]
        exact ⟨rfl, HB9.out⟩
    · have hkI : (k : Int) < 8 := by omega
      have hk0 : (0 : Int) ≤ (k : Int) := by omega
      have hbit := bit_ok n k hn (by omega)
      have hil := ids_len n k
      have hwv := HB.out.size
      have HSUCC := Lib.hid (ids_succ n k)
      obtain ⟨i0, hi, hz0, hz1, hz2⟩ := info_parts infoU
      have HI := Lib.hid hi
      have HZ0 := Lib.hid hz0
      have HZ1 := Lib.hid hz1
      have HZ2 := Lib.hid hz2
      clear hi hz0 hz1 hz2
      cases hb : bit n k
      · rw [hb] at hbit
        have hs : ids n (k + 1) = ids n k := by rw [HSUCC.out, hb]; simp
        have HS := Lib.hid hs
        clear hs hb HSUCC
        go_wp2_with fail
        exact ⟨⟨k + 1, by omega, by go_num, by rw [HS.out]; exact HOW.out, HB.out⟩, by simp [intOf]; omega⟩
      · rw [hb] at hbit
        have hs : ids n (k + 1) = ids n k ++ [UInt8.ofNat k] := by rw [HSUCC.out, hb]; simp
        have HS := Lib.hid hs
        have hck : bcl [UInt8.ofNat k] = [Value.int .u8 (k : Int)] := by
          have : (UInt8.ofNat k).toNat = k := by rw [UInt8.toNat_ofNat']; omega
          simp [bcl, this]
        have HCK := Lib.hid hck
        obtain ⟨ao, co, hao⟩ : ∃ ao co, u4 = .slice ao (ids n k).length co := slice_of HOW.out
        subst hao
        clear hs hb HSUCC hck
        go_wp2_with (at_builtin; refine wpList_append_own_at _ rfl _ _ 95 rfl v2.heap.size 5 i0 _ 1 1 Try.underlying95 HI.out HZ0.out HZ1.out HZ2.out rfl (by decide) _ _ _ rfl (HOW.out.alloc _) ⟨wo.heap.size, 0, none⟩ 1 1 [.int .u8 (k : Int)] rfl rfl (fun j u hu => new_byte hu) (by simp [Value.oneCell']) (by unfold maxLen; omega) (by omega) (by simp; omega) ?_; intro v8 w8 hob8 hg8 hnil8 hloc8; have hB8 := (Below.refl v2.heap.size _).grown hg8 (by simp; omega) (fun j hj => (HOW.out.lt j hj).1); have HOB8 := Lib.hid hob8; have HB8 := Lib.hid hB8; clear hob8 hg8 hnil8 hloc8 hB8)
        have hba : Below v2.heap.size wo w8 := ((Below.refl _ wo).alloc (by omega) _).trans HB8.out
        refine ⟨⟨k + 1, by omega, by go_num, ?_, HB.out.trans hba⟩, by simp [intOf]; omega⟩
        rw [HS.out, bcl_append, List.length_append, HCK.out]
        exact HOB8.out
end Go.Proofs.Ytdlfjbllmmkmkaa.Chair
