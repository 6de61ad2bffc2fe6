/- slices.Insert of a ballot. -/
import Derived.Test.YtajnaiofagppeaaDoorUnpack
import Derived.Shelf.Spec.SlicesInsertGrow
import Derived.Laws.CopyRow
import Derived.Deep.RegionLaw
import Derived.Laws.NewBlocks
import Derived.Stop.Walk2
namespace Go.Proofs.YtajnaiofagppeaaDoor.Insert
open Go Go.RowKit Go.Shelf Go.Lib CodeSpec AgentSpec Flat Ballot Collect Pack Go.Proofs.YtajnaiofagppeaaDoorW.PrintLast
set_option linter.unusedSimpArgs false
set_option linter.unusedVariables false
set_option maxRecDepth 100000
variable {P : Program}
/-- copy between rows of elements of two cells. -/
theorem run_copy_two (w : World) (dT sT ty elem : TypeId) (g o dLen dCap : Nat) (a : Addr) (sLen sCap : Nat) (cur : Array Value) (t : TypeId) (cs : List Value)
    (hu : P.underlying dT = some (.slice elem)) (hs : (P.info? elem).map (·.size) = some 2)
    (hg : w.heap[g]? = some (.cells cur t (0, 0))) (hn : cs.length = Nat.min sLen dLen * 2)
    (hsrc : ∀ j v, cs[j]? = some v → w.cell? (a.add j) = some v) (hfit : o + cs.length ≤ cur.size) (h1 : ∀ v ∈ cs, v.oneCell' = true) :
    (Builtin.copy_ #[dT, sT] ty #[.slice (some ⟨g, o, none⟩) dLen dCap, .slice (some a) sLen sCap]).run P w =
      .ok (goInt (Nat.min sLen dLen)) (w.setRow g (cur.toList.take o ++ cs ++ cur.toList.drop (o + cs.length)).toArray) := by
  have hl := run_loadCells_list (P := P) w a cs hsrc
  have hst := run_storeCells_at P g o t cs 0 cur w hg (by simpa using hfit) h1
  cases hq : P.info? elem with
  | none => simp [hq] at hs
  | some i =>
    have hi : i.size = 2 := by simpa [hq] using hs
    simp [Builtin.copy_, run_underlying hu, Builtin.lenOf, Builtin.firstCells, sizeOf, typeInfo, hq, hi, ← hn, hl, hst]
theorem bal_one (l : List Ba) : ∀ v ∈ bcl l, v.oneCell' = true := by
  intro v hv
  rw [bcl, List.mem_flatMap] at hv
  obtain ⟨b, _, hv⟩ := hv
  simp only [bal1, List.mem_cons, List.not_mem_nil, or_false] at hv
  rcases hv with rfl | rfl <;> rfl
theorem bcl_take (l : List Ba) (k : Nat) : (bcl l).take (k * 2) = bcl (l.take k) := by
  induction l generalizing k with
  | nil => simp [bcl]
  | cons b l ih =>
    cases k with
    | zero => simp [bcl]
    | succ k =>
      have k1 := ih k
      rw [List.take_succ_cons, show (k + 1) * 2 = k * 2 + 1 + 1 by omega]
      show (.int .i64 b.tx :: .int .i64 b.vote :: bcl l : List Value).take _ = .int .i64 b.tx :: .int .i64 b.vote :: bcl (l.take k)
      rw [List.take_succ_cons, List.take_succ_cons, k1]
theorem bcl_drop (l : List Ba) (k : Nat) : (bcl l).drop (k * 2) = bcl (l.drop k) := by
  induction l generalizing k with
  | nil => simp [bcl]
  | cons b l ih =>
    cases k with
    | zero => simp [bcl]
    | succ k =>
      have k1 := ih k
      rw [List.drop_succ_cons, show (k + 1) * 2 = k * 2 + 1 + 1 by omega]
      show (.int .i64 b.tx :: .int .i64 b.vote :: bcl l : List Value).drop _ = _
      rw [List.drop_succ_cons, List.drop_succ_cons, k1]
def insL (l : List Ba) (k : Nat) (b : Ba) : List Ba := l.take k ++ b :: l.drop k
theorem ins_len (l : List Ba) (k : Nat) (b : Ba) (h : k ≤ l.length) : (insL l k b).length = l.length + 1 := by simp [insL]; omega
theorem bcl_ins (l : List Ba) (k : Nat) (b : Ba) : bcl (insL l k b) = (bcl l).take (k * 2) ++ (bal1 b ++ (bcl l).drop (k * 2)) := by
  rw [insL, bcl_append, bcl_take, bcl_drop]
  rfl
theorem add_lit (g o j : Nat) : ((⟨g, o, none⟩ : Addr).add j) = ⟨g, o + j, none⟩ := by unfold Addr.add; split <;> simp_all
/-- What a row of one's own holds behind it. -/
theorem row_cells {w : World} {g : Nat} {cur : Array Value} {t : TypeId} {f : Nat × Nat} (hg : w.heap[g]? = some (.cells cur t f)) (j : Nat) : w.cell? ⟨g, j, none⟩ = cur[j]? := by
  simp [World.cell?, hg]
def InsPost (B : Nat) (T : List Ba) (w : World) (e : Ending) (w' : World) : Prop := ∃ v, e = .returned v ∧ OwnL w' B v T ∧ Below B w w'
set_option maxHeartbeats 2000000 in
theorem insert_end (B vb : Nat) (v : Value) (l : List Ba) (b : Ba) (hl : l.length ≤ 100) (w : World) (ho : OwnL w B v l) (hB : B ≤ w.heap.size)
    (c0 : w.cell? ⟨vb, 0, none⟩ = some (.int .i64 b.tx)) (c1 : w.cell? ⟨vb, 1, none⟩ = some (.int .i64 b.vote)) :
    Calls Tryd.prog 41 #[v, .int .i64 (l.length : Int), .slice (some ⟨vb, 0, none⟩) 1 1] w (InsPost B (insL l l.length b) w) := by
  obtain ⟨i0, hi, hz0, hz1, hz2⟩ := info_parts infoBa
  obtain ⟨a, cap, rfl, hlc, hcm, _⟩ := own_bal ho
  have hcm2 := hcm
  unfold maxLen at hcm2
  have hnews : ∀ j u, (bal1 b)[j]? = some u → w.cell? ((⟨vb, 0, none⟩ : Addr).add j) = some u := by
    intro j u hj
    rw [add_lit, Nat.zero_add]
    match j, hj with
    | 0, hj => simp [bal1] at hj; rw [← hj]; exact c0
    | 1, hj => simp [bal1] at hj; rw [← hj]; exact c1
  have hone : ∀ u ∈ bal1 b, u.oneCell' = true := fun u hu => bal_one [b] u (by simpa [bcl] using hu)
  have HN := Lib.hid hnews
  have HO := Lib.hid ho
  have H1 := Lib.hid hone
  clear hnews ho hone c0 c1
  have hil : insL l l.length b = l ++ [b] := by simp [insL]
  have HIL := Lib.hid hil
  clear hil
  go_enter Tryd.func41, Tryd.ntmps41
  go_wp2_with (first | (at_builtin; refine wpList_append_own_at _ rfl _ _ 27 rfl B 49 i0 _ 2 16 Tryd.underlying27 hi hz0 hz1 hz2 rfl (by decide) _ l.length (bcl l) rfl HO.out ⟨vb, 0, none⟩ 1 1 (bal1 b) rfl rfl HN.out H1.out (by unfold maxLen; omega) (by omega) hB ?_; intro v7 w7 hob7 hg7 hnil7 hloc7) | fail)
  all_goals (
    go_ret
    refine ⟨_, rfl, ?_, (Below.refl B w).grown hg7 hB (fun j hj => (HO.out.lt j hj).1)⟩
    rw [HIL.out, OwnL, List.length_append, bcl_append]
    simpa [bcl] using hob7)
/-- What a row reads as, behind the two copies. -/
theorem two_copies {α : Type} (cur xs y : List α) (i n cap : Nat) (hx : xs.length = n) (hcur : cur.length = cap) (htake : cur.take n = xs) (hin : i ≤ n) (hroom : n + y.length ≤ cap) :
    (((cur.take (i + y.length) ++ xs.drop i ++ cur.drop (i + y.length + (xs.drop i).length)).take i ++ y ++ (cur.take (i + y.length) ++ xs.drop i ++ cur.drop (i + y.length + (xs.drop i).length)).drop (i + y.length))).take (n + y.length) = xs.take i ++ (y ++ xs.drop i) := by
  have hd : (xs.drop i).length = n - i := by rw [List.length_drop, hx]
  have ht : (cur.take (i + y.length)).length = i + y.length := by rw [List.length_take]; omega
  have e1 : (cur.take (i + y.length) ++ xs.drop i ++ cur.drop (i + y.length + (xs.drop i).length)).take i = xs.take i := by
    rw [List.append_assoc, List.take_append_of_le_length (by omega), List.take_take, show min i (i + y.length) = i by omega, ← htake, List.take_take, show min i n = i by omega]
  have e2 : (cur.take (i + y.length) ++ xs.drop i ++ cur.drop (i + y.length + (xs.drop i).length)).drop (i + y.length) = xs.drop i ++ cur.drop (i + y.length + (xs.drop i).length) := by
    rw [List.append_assoc, List.drop_append_of_le_length (by omega), List.drop_of_length_le (by omega), List.nil_append]
  rw [e1, e2, List.append_assoc, ← List.append_assoc y, ← List.append_assoc, List.take_append_of_le_length (by simp only [List.length_append, List.length_take, hd]; omega), List.take_of_length_le (by simp only [List.length_append, List.length_take, hd]; omega)]
set_option maxHeartbeats 4000000 in
theorem insert_shift (B g cap : Nat) (cur : Array Value) (vb : Nat) (l : List Ba) (b : Ba) (i : Nat) (hl : l.length ≤ 100) (hin : i < l.length) (w : World) (hB : B ≤ g) (hgw : w.heap[g]? = some (.cells cur 49 (0, 0))) (hroom : l.length + 1 ≤ cap) (hcm : cap ≤ maxLen)
    (hcs : cur.size = cap * 2) (htk : cur.toList.take (l.length * 2) = bcl l) (hvb : vb ≠ g)
    (c0 : w.cell? ⟨vb, 0, none⟩ = some (.int .i64 b.tx)) (c1 : w.cell? ⟨vb, 1, none⟩ = some (.int .i64 b.vote)) (hsa : w.shape? vb = some (49, 2)) (hfa : w.frozen? ⟨vb, 0, none⟩ = false) (hfe : w.frozen? ⟨vb, 2, none⟩ = false) :
    Calls Tryd.prog 41 #[.slice (some ⟨g, 0, none⟩) l.length cap, .int .i64 (i : Int), .slice (some ⟨vb, 0, none⟩) 1 1] w (InsPost B (insL l i b) w) := by
  obtain ⟨i0, hi, hz0, hz1, hz2⟩ := info_parts infoBa
  have hcm2 := hcm
  unfold maxLen at hcm2
  have hgs : g < w.heap.size := (Array.getElem?_eq_some_iff.1 hgw).1
  have hsz2 : (Tryd.prog.info? 49).map (·.size) = some 2 := by rw [hi]; simp [hz1]
  have mixed : Tryd.prog.follows Departure.mixedOrders = true := by kernel_rfl
  have hsb : w.shape? g = some (49, cur.size) := by simp [World.shape?, hgw]
  have hov : ∀ lb cb, (callFunc 70 #[.slice (some ⟨vb, 0, none⟩) 1 1, .slice (some ⟨g, (i + 1) * 2, none⟩) lb cb]).run Tryd.prog w = .ok (.value (.bool false)) w := fun lb cb => by
    rw [run_callFunc_extern Tryd.func70 (by kernel_rfl) (by kernel_rfl) (by kernel_rfl) (e := Extern.SlicesOverlaps.overlaps #[27, 27] #[4]) (by kernel_rfl),
      Lib.run_overlaps_apart w 27 4 49 Tryd.underlying27 2 Tryd.sizeOf49 ⟨vb, 0, none⟩ ⟨g, (i + 1) * 2, none⟩ 1 1 lb cb hvb 49 49 2 cur.size hsa hsb (by omega) hfa hfe]
    rfl
  obtain ⟨xs, hxs⟩ : ∃ xs, xs = bcl l := ⟨_, rfl⟩
  have hxl : xs.length = l.length * 2 := by rw [hxs, bcl_len]
  obtain ⟨ys, hys⟩ : ∃ ys, ys = xs.drop (i * 2) := ⟨_, rfl⟩
  have hyl : ys.length = (l.length - i) * 2 := by rw [hys, List.length_drop, hxl]; omega
  obtain ⟨cur1, hcur1⟩ : ∃ c : Array Value, c = (cur.toList.take ((i + 1) * 2) ++ ys ++ cur.toList.drop ((i + 1) * 2 + ys.length)).toArray := ⟨_, rfl⟩
  have hc1s : cur1.size = cap * 2 := by
    rw [hcur1]
    simp only [List.size_toArray, List.length_append, List.length_take, List.length_drop, Array.length_toList]
    omega
  have hcp1 : ∀ ty dc sc, (Builtin.copy_ #[27, 27] ty #[.slice (some ⟨g, (i + 1) * 2, none⟩) (l.length - i) dc, .slice (some ⟨g, i * 2, none⟩) (l.length + 1 - i) sc]).run Tryd.prog w.drew = .ok (goInt (Nat.min (l.length + 1 - i) (l.length - i))) (w.drew.setRow g cur1) := fun ty dc sc => by
    rw [hcur1]
    exact run_copy_two w.drew 27 27 ty 49 g ((i + 1) * 2) _ dc ⟨g, i * 2, none⟩ _ sc cur 49 ys Tryd.underlying27 hsz2 hgw (by rw [hyl]; simp only [Nat.min_def]; split <;> omega)
      (fun j v hj => by
        rw [add_lit, row_cells (w := w.drew) hgw]
        rw [hys, hxs, ← htk, List.getElem?_drop, List.getElem?_take] at hj
        split at hj
        · simpa using hj
        · cases hj)
      (by omega) (fun v hv => bal_one l v (by rw [← hxs]; rw [hys] at hv; exact List.mem_of_mem_drop hv))
  obtain ⟨W1, hW1⟩ : ∃ W1, W1 = w.drew.setRow g cur1 := ⟨_, rfl⟩
  have hg1 : W1.heap[g]? = some (.cells cur1 49 (0, 0)) := by rw [hW1]; exact setRow_heap w.drew g cur cur1 49 (0, 0) hgw
  obtain ⟨cur2, hcur2⟩ : ∃ c : Array Value, c = (cur1.toList.take (i * 2) ++ bal1 b ++ cur1.toList.drop (i * 2 + 2)).toArray := ⟨_, rfl⟩
  have hv1 : ∀ j v, (bal1 b)[j]? = some v → W1.cell? ((⟨vb, 0, none⟩ : Addr).add j) = some v := by
    intro j u hj
    rw [add_lit, Nat.zero_add, hW1]
    have hh : (w.drew.setRow g cur1).heap[vb]? = w.heap[vb]? := setRow_other w.drew g vb cur1 hvb
    match j, hj with
    | 0, hj => simp [bal1] at hj; rw [← hj]; exact (World.cell?_of_block (a := ⟨vb, 0, none⟩) hh).trans c0
    | 1, hj => simp [bal1] at hj; rw [← hj]; exact (World.cell?_of_block (a := ⟨vb, 1, none⟩) hh).trans c1
  have hcp2 : ∀ (W : World), W = W1 → ∀ ty dc, (Builtin.copy_ #[27, 27] ty #[.slice (some ⟨g, i * 2, none⟩) (l.length + 1 - i) dc, .slice (some ⟨vb, 0, none⟩) 1 1]).run Tryd.prog W = .ok (goInt (Nat.min 1 (l.length + 1 - i))) (W.setRow g cur2) := fun W e ty dc => by
    rw [e, hcur2]
    exact run_copy_two W1 27 27 ty 49 g (i * 2) _ dc ⟨vb, 0, none⟩ 1 1 cur1 49 (bal1 b) Tryd.underlying27 hsz2 hg1 (by show 2 = _; simp only [Nat.min_def]; split <;> omega) hv1
      (by show i * 2 + 2 ≤ _; omega) (fun u hu => bal_one [b] u (by simpa [bcl] using hu))
  rw [← hW1] at hcp1
  have hfin : InsPost B (insL l i b) w (.returned (.slice (some ⟨g, 0, none⟩) (l.length + 1) cap)) (W1.setRow g cur2) := by
    refine ⟨_, rfl, ?_, ?_⟩
    · refine ⟨by rw [bcl_len], .inr ⟨g, cap, cur2, ?_, hB, setRow_heap W1 g cur1 cur2 49 (0, 0) hg1, ?_, hcm, ?_, ?_⟩⟩
      · rw [ins_len _ _ _ (by omega)]
      · rw [ins_len _ _ _ (by omega)]; exact hroom
      · rw [hcur2]
        simp only [List.size_toArray, List.length_append, List.length_take, List.length_drop, Array.length_toList, show (bal1 b).length = 2 from rfl]
        omega
      · have k := two_copies cur.toList xs (bal1 b) (i * 2) (l.length * 2) (cap * 2) hxl (by simpa using hcs) (by rw [htk, hxs]) (by omega) (by show l.length * 2 + 2 ≤ _; omega)
        rw [ins_len _ _ _ (by omega), bcl_ins, hcur2, hcur1, hys, ← hxs]
        simp only [show (bal1 b).length = 2 from rfl] at k
        rw [show (l.length + 1) * 2 = l.length * 2 + 2 by omega, show (i + 1) * 2 = i * 2 + 2 by omega]
        exact k
    · rw [hW1]
      exact ⟨rfl, rfl, rfl, by simp [World.setRow], fun k hk => (setRow_other _ g k _ (by omega)).trans (setRow_other _ g k _ (by omega))⟩
  have HF := Lib.hid hfin
  have HCP2 := Lib.hid hcp2
  clear hfin hcp2 hv1 hcur2 hg1 hc1s hcur1 hyl hys hxl hxs hW1 hsb htk hcs hgw c0 c1 hsa hfa hfe
  have hin2 : i ≤ l.length := by omega
  have hw1 : IntKind.i64.wrap ((i : Int) + 1) = (i : Int) + 1 := by rw [IntKind.wrap_i64]; omega
  have hw2 : IntKind.i64.wrap ((l.length : Int) + 1) = (l.length : Int) + 1 := by rw [IntKind.wrap_i64]; omega
  have hne : ¬ ((i : Int) = (l.length : Int)) := by omega
  have hb1 : (0 : Int) ≤ (i : Int) + 1 := by omega
  have htn : ((i : Int) + 1).toNat = i + 1 := by omega
  have htn2 : ((l.length : Int) + 1).toNat = l.length + 1 := by omega
  have hb2 : ¬ (cap = i + 1) := by omega
  have hb3 : (i : Int) ≤ (l.length : Int) + 1 := by omega
  have hb4 : ¬ (cap = i) := by omega
  have hb5 : ¬ ((cap : Int) < (l.length : Int) + 1) := by omega
  go_enter Tryd.func41, Tryd.ntmps41
  go_wp2_with (simp only [hov])
  go_region_law (refine step_copy_runI rfl _ _ 27 27 rfl _ _ (by simp [Act.eval, Act.put]) (by simp [Act.eval, Act.put]) (hcp1 _ _ _) ?_)
  go_wp2_with (refine wpList_copy_runI _ rfl _ _ 27 27 rfl _ _ rfl rfl (HCP2.out _ rfl _ _) ?_)
  go_ret
  exact HF.out
theorem grow_copies {α : Type} (xs y row : List α) (i n : Nat) (hx : xs.length = n) (hrow : n + y.length ≤ row.length) (htake : row.take i = xs.take i) (hin : i ≤ n) :
    (((row.take i ++ y ++ row.drop (i + y.length)).take (i + y.length)) ++ xs.drop i ++ (row.take i ++ y ++ row.drop (i + y.length)).drop (i + y.length + (xs.drop i).length)).take (n + y.length) = xs.take i ++ (y ++ xs.drop i) := by
  have hd : (xs.drop i).length = n - i := by rw [List.length_drop, hx]
  have ht : (row.take i).length = i := by rw [List.length_take]; omega
  have e1 : (row.take i ++ y ++ row.drop (i + y.length)).take (i + y.length) = xs.take i ++ y := by
    rw [htake, List.take_append_of_le_length (by rw [List.length_append, List.length_take]; omega), List.take_of_length_le (by rw [List.length_append, List.length_take]; omega)]
  rw [e1, List.append_assoc, List.append_assoc, ← List.append_assoc y, ← List.append_assoc, List.take_append_of_le_length (by simp only [List.length_append, List.length_take, hd]; omega), List.take_of_length_le (by simp only [List.length_append, List.length_take, hd]; omega)]
set_option maxHeartbeats 4000000 in
theorem insert_grow (B g : Nat) (cur : Array Value) (vb : Nat) (l : List Ba) (b : Ba) (i : Nat) (hl : l.length ≤ 100) (hin : i < l.length) (w : World) (hB : B ≤ g) (hgw : w.heap[g]? = some (.cells cur 49 (0, 0)))
    (hcs : cur.size = l.length * 2) (htk : cur.toList.take (l.length * 2) = bcl l)
    (c0 : w.cell? ⟨vb, 0, none⟩ = some (.int .i64 b.tx)) (c1 : w.cell? ⟨vb, 1, none⟩ = some (.int .i64 b.vote)) :
    Calls Tryd.prog 41 #[.slice (some ⟨g, 0, none⟩) l.length l.length, .int .i64 (i : Int), .slice (some ⟨vb, 0, none⟩) 1 1] w (InsPost B (insL l i b) w) := by
  obtain ⟨i0, hi, hz0, hz1, hz2⟩ := info_parts infoBa
  have hgs : g < w.heap.size := (Array.getElem?_eq_some_iff.1 hgw).1
  have hvs : vb < w.heap.size := Flat.cell_lt c0
  have hsz2 : (Tryd.prog.info? 49).map (·.size) = some 2 := by rw [hi]; simp [hz1]
  have mixed : Tryd.prog.follows Departure.mixedOrders = true := by kernel_rfl
  obtain ⟨n, hn⟩ : ∃ n, n = l.length := ⟨_, rfl⟩
  rw [← hn] at hl hin hcs htk ⊢
  obtain ⟨xs, hxs⟩ : ∃ xs, xs = bcl l := ⟨_, rfl⟩
  have hxl : xs.length = n * 2 := by rw [hxs, bcl_len, hn]
  have hcur : cur.toList = xs := by rw [hxs, ← htk, List.take_of_length_le (by simp [hcs])]
  obtain ⟨k, hk⟩ : ∃ k, k = n + 1 - i := ⟨_, rfl⟩
  have hik : i + k = n + 1 := by omega
  have hold : (Builtin.firstCells i0.size i (.slice (some ⟨g, 0, none⟩) i n)).run Tryd.prog w.drew = .ok (xs.take (i * 2)).toArray w.drew := by
    rw [hz1]
    exact run_firstCells_some w.drew 2 i ⟨g, 0, none⟩ i n (xs.take (i * 2)) (by rw [List.length_take]; omega) (fun j v hj => by
      rw [add_lit, Nat.zero_add, row_cells (w := w.drew) hgw]
      rw [List.getElem?_take] at hj
      split at hj
      · rw [← hcur] at hj; simpa using hj
      · cases hj)
  obtain ⟨G, hG⟩ : ∃ G, G = grownCap w (n + 1) n 49 := ⟨_, rfl⟩
  have hGn : n + 1 ≤ G := by rw [hG]; exact grownCap_ge w _ _ _
  have hGm : G ≤ maxLen := by rw [hG]; exact grownCap_le_maxLen w _ _ _ (by unfold maxLen; omega)
  have hG63 : G ≤ 9223372036854775807 := by unfold maxLen at hGm; omega
  obtain ⟨ROW, hROW⟩ : ∃ ROW : Array Value, ROW = (xs.take (i * 2)).toArray ++ Builtin.zeroCells (Value.agg #[.int .i64 0, .int .i64 0]).cells k ++ Builtin.zeroCells (Value.agg #[.int .i64 0, .int .i64 0]).cells (G - (n + 1)) := ⟨_, rfl⟩
  have hkk : (n : Int) + 1 - (i : Int) = (k : Int) := by omega
  have hrz : ∀ ty, (Builtin.append_ #[27, 3] ty #[.slice (some ⟨g, 0, none⟩) i n, .int .i64 ((n : Int) + 1 - (i : Int))]).run Tryd.prog w = .ok (.slice (some ⟨w.heap.size, 0, none⟩) (n + 1) G) (w.drew.alloc (.cells ROW 49)) := fun ty => by
    have h := Lib.run_append_grow_zeros w 27 3 ty 49 i0 _ .i64 .i64 Tryd.underlying27 Tryd.underlying3 hi hz0 (some ⟨g, 0, none⟩) i n _ hold k (by omega) (by rw [hz1]; omega) (by omega) (by omega) (by rw [hz2]; omega) (by rw [hz2, hik]; have := growslice_fits (need := n + 1) (old := n) (bytes := 16) (by omega) (by omega); exact this)
    rw [hik, ← hG, ← hROW] at h
    rw [hkk]
    exact h
  have hRl : ROW.size = G * 2 := by
    rw [hROW]
    simp only [Array.size_append, List.size_toArray, List.length_take, Builtin.zeroCells, Array.size_map, Array.size_range, Value.cells]
    have : (#[Value.int .i64 0, Value.int .i64 0] : Array Value).size = 2 := rfl
    simp only [List.size_toArray, List.length_cons, List.length_nil]
    omega
  have hRt : ROW.toList.take (i * 2) = xs.take (i * 2) := by
    rw [hROW, Array.toList_append, Array.toList_append, List.append_assoc, List.take_append_of_le_length (by simp only [List.length_take]; omega), List.take_of_length_le (by simp only [List.length_take]; omega)]
  obtain ⟨H, hH⟩ : ∃ H, H = w.heap.size := ⟨_, rfl⟩
  obtain ⟨W1, hW1⟩ : ∃ W1, W1 = w.drew.alloc (.cells ROW 49) := ⟨_, rfl⟩
  rw [← hW1, ← hH] at hrz
  have hB1 : Below w.heap.size w W1 := by rw [hW1]; exact (Below.refl _ w).drew.alloc (by exact Nat.le_refl _) _
  have hg1 : W1.heap[H]? = some (.cells ROW 49 (0, 0)) := by
    rw [hW1, hH]
    show (w.heap.push _)[w.heap.size]? = _
    simp
  obtain ⟨row2, hrow2⟩ : ∃ c : Array Value, c = (ROW.toList.take (i * 2) ++ bal1 b ++ ROW.toList.drop (i * 2 + 2)).toArray := ⟨_, rfl⟩
  have hr2s : row2.size = G * 2 := by
    rw [hrow2]
    simp only [List.size_toArray, List.length_append, List.length_take, List.length_drop, Array.length_toList, show (bal1 b).length = 2 from rfl]
    omega
  have hv1 : ∀ j v, (bal1 b)[j]? = some v → W1.cell? ((⟨vb, 0, none⟩ : Addr).add j) = some v := by
    intro j u hj
    rw [add_lit, Nat.zero_add]
    match j, hj with
    | 0, hj => simp [bal1] at hj; rw [← hj]; exact (hB1.cell (p := ⟨vb, 0, none⟩) hvs).trans c0
    | 1, hj => simp [bal1] at hj; rw [← hj]; exact (hB1.cell (p := ⟨vb, 1, none⟩) hvs).trans c1
  have hcpA : ∀ ty dc, (Builtin.copy_ #[27, 27] ty #[.slice (some ⟨H, i * 2, none⟩) (n + 1 - i) dc, .slice (some ⟨vb, 0, none⟩) 1 1]).run Tryd.prog W1 = .ok (goInt (Nat.min 1 (n + 1 - i))) (W1.setRow H row2) := fun ty dc => by
    rw [hrow2]
    exact run_copy_two W1 27 27 ty 49 H (i * 2) _ dc ⟨vb, 0, none⟩ 1 1 ROW 49 (bal1 b) Tryd.underlying27 hsz2 hg1 (by show 2 = _; simp only [Nat.min_def]; split <;> omega) hv1
      (by show i * 2 + 2 ≤ _; omega) (fun u hu => bal_one [b] u (by simpa [bcl] using hu))
  obtain ⟨W2, hW2⟩ : ∃ W2, W2 = W1.setRow H row2 := ⟨_, rfl⟩
  rw [← hW2] at hcpA
  have hg2 : W2.heap[H]? = some (.cells row2 49 (0, 0)) := by rw [hW2]; exact setRow_heap W1 H ROW row2 49 (0, 0) hg1
  have hgo : W2.heap[g]? = some (.cells cur 49 (0, 0)) := by
    rw [hW2, setRow_other W1 H g row2 (by omega)]
    exact (hB1.block g hgs).trans hgw
  obtain ⟨ys, hys⟩ : ∃ ys, ys = xs.drop (i * 2) := ⟨_, rfl⟩
  have hyl : ys.length = (n - i) * 2 := by rw [hys, List.length_drop, hxl]; omega
  obtain ⟨row3, hrow3⟩ : ∃ c : Array Value, c = (row2.toList.take ((i + 1) * 2) ++ ys ++ row2.toList.drop ((i + 1) * 2 + ys.length)).toArray := ⟨_, rfl⟩
  have hcpB : ∀ ty dc sc, (Builtin.copy_ #[27, 27] ty #[.slice (some ⟨H, (i + 1) * 2, none⟩) (n - i) dc, .slice (some ⟨g, i * 2, none⟩) (n - i) sc]).run Tryd.prog W2.drew = .ok (goInt (Nat.min (n - i) (n - i))) (W2.drew.setRow H row3) := fun ty dc sc => by
    rw [hrow3]
    exact run_copy_two W2.drew 27 27 ty 49 H ((i + 1) * 2) _ dc ⟨g, i * 2, none⟩ _ sc row2 49 ys Tryd.underlying27 hsz2 hg2 (by rw [hyl]; simp only [Nat.min_def]; split <;> omega)
      (fun j v hj => by
        rw [add_lit, row_cells (w := W2.drew) hgo]
        rw [hys, ← hcur, List.getElem?_drop] at hj
        simpa using hj)
      (by omega) (fun v hv => bal_one l v (by rw [← hxs]; rw [hys] at hv; exact List.mem_of_mem_drop hv))
  have hfin : InsPost B (insL l i b) w (.returned (.slice (some ⟨H, 0, none⟩) (n + 1) G)) (W2.drew.setRow H row3) := by
    have hlen : (insL l i b).length = n + 1 := by rw [ins_len _ _ _ (by omega), hn]
    refine ⟨_, rfl, ?_, ?_⟩
    · refine ⟨by rw [bcl_len], .inr ⟨H, G, row3, by rw [hlen], by omega, setRow_heap W2.drew H row2 row3 49 (0, 0) hg2, by rw [hlen]; exact hGn, hGm, ?_, ?_⟩⟩
      · rw [hrow3]
        simp only [List.size_toArray, List.length_append, List.length_take, List.length_drop, Array.length_toList]
        omega
      · have q := grow_copies xs (bal1 b) ROW.toList (i * 2) (n * 2) hxl (by simp only [Array.length_toList, hRl, show (bal1 b).length = 2 from rfl]; omega) hRt (by omega)
        rw [hlen, bcl_ins, hrow3, hrow2, hys, ← hxs]
        simp only [show (bal1 b).length = 2 from rfl] at q
        rw [show (n + 1) * 2 = n * 2 + 2 by omega, show (i + 1) * 2 = i * 2 + 2 by omega]
        exact q
    · have h1 : ∀ j, j < w.heap.size → (W2.drew.setRow H row3).heap[j]? = w.heap[j]? := fun j hj => by
        rw [setRow_other W2.drew H j row3 (by omega)]
        show W2.heap[j]? = _
        rw [hW2, setRow_other W1 H j row2 (by omega)]
        exact hB1.block j hj
      have h2 : w.heap.size ≤ (W2.drew.setRow H row3).heap.size := by
        have e1 : W2.heap.size = W1.heap.size := by rw [hW2]; simp [World.setRow]
        have e2 : (W2.drew.setRow H row3).heap.size = W2.heap.size := by
          simp only [World.setRow, Array.size_modify]
          rfl
        have := hB1.size
        omega
      refine ⟨?_, ?_, ?_, h2, fun j hj => h1 j (by omega)⟩
      · rw [hW2]; exact hB1.os
      · rw [hW2]; exact hB1.tape
      · rw [hW2]; exact hB1.output
  have HF := Lib.hid hfin
  have HA := Lib.hid hcpA
  have HR := Lib.hid hrz
  clear hfin hcpA hrz hv1 hrow2 hr2s hrow3 hg1 hg2 hgo hyl hys hW2 hW1 hB1 hRl hRt hROW hold hkk hik hk hcur hxl hxs htk hcs hgw c0 c1 hG hH hvs hgs
  have hin2 : i ≤ n := by omega
  have hw1 : IntKind.i64.wrap ((i : Int) + 1) = (i : Int) + 1 := by rw [IntKind.wrap_i64]; omega
  have hw2 : IntKind.i64.wrap ((n : Int) + 1) = (n : Int) + 1 := by rw [IntKind.wrap_i64]; omega
  have hne : ¬ ((i : Int) = (n : Int)) := by omega
  have hb1 : (0 : Int) ≤ (i : Int) + 1 := by omega
  have htn : ((i : Int) + 1).toNat = i + 1 := by omega
  have hb2 : ¬ (G = i + 1) := by omega
  have hb3 : (i : Int) ≤ (n : Int) := by omega
  have hb4 : ¬ (G = i) := by omega
  have hb5 : (n : Int) < (n : Int) + 1 := by omega
  have hb6 : ¬ (n = i) := by omega
  have hnk : n + 1 - (i + 1) = n - i := by omega
  have HN := Lib.hid hn
  clear hn
  go_enter Tryd.func41, Tryd.ntmps41
  go_upto_region 9 with fail
  go_upto_region 10 with (at_builtin; go_loud (refine Lib.wpList_append_run _ rfl _ _ _ _ rfl _ _ rfl rfl _ _ (HR.out _) ?_))
  go_upto_region 11 with (refine wpList_copy_runI _ rfl _ _ 27 27 rfl _ _ rfl rfl (HA.out _ _) ?_)
  go_region_law (refine step_copy_runI rfl _ _ 27 27 rfl _ _ (by simp [Act.eval, Act.put]) (by simp [Act.eval, Act.put]) (hcpB _ _ _) ?_)
  go_wp2_with fail
  go_ret
  exact HF.out
end Go.Proofs.YtajnaiofagppeaaDoor.Insert
