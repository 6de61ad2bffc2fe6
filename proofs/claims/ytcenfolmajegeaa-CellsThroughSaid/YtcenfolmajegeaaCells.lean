/- What cells (keys uint8, values int64) answer, over the word 'the map in this block is this function'. -/
import Derived.Test.YtcenfolmajegeaaCellMap
import Derived.BigQuiet
import Derived.Laws.NewBlocks
import Derived.Lib.Hide
import Derived.Deep.QuietTactic
import Derived.Deep.AppendLies
import Derived.RowKit3
import Derived.Outline
import Derived.Deep.DeepCutAuto
import Derived.Shelf.SlMaps.Clone
namespace Go.Proofs.Ytcenfolmajegeaa.Cells
open Go.RowKit Go.Maps CellMap
set_option linter.unusedSimpArgs false
set_option linter.unusedVariables false

theorem keyed : Keyed Try.prog 5 := int_keyed Try.underlying5
theorem zeroE (w : World) : (zeroValue 2).run Try.prog w = .ok (.int .i64 0) w := by kernel_rfl
/-- Block b is a map that reads as f, of c entries. -/
def Own (w : World) (b : Nat) (f : Int → Option Int) (c : Nat) : Prop := ∃ D : DM, w.ownsMap Try.prog 5 (plainElem Try.prog 2) b c D ∧ Reads D f c

theorem tight {w : World} {b n : Nat} {D : DM} (h : w.ownsMap Try.prog 5 (plainElem Try.prog 2) b n D) : w.ownsMap Try.prog 5 (plainElem Try.prog 2) b (Maps.size D) D := by
  obtain ⟨es, clock, hb, F, _, rfl⟩ := h
  exact ⟨es, clock, hb, F, by simp only [Maps.size]; rw [length_read]; exact Nat.le_refl _, rfl⟩
theorem own_of {w : World} {b n c : Nat} {D : DM} {f : Int → Option Int} (h : w.ownsMap Try.prog 5 (plainElem Try.prog 2) b n D) (hD : Reads D f c) : Own w b f c := by
  have := tight h
  rw [hD.1] at this
  exact ⟨D, this, hD⟩
theorem Own.kept {w w' : World} {b : Nat} {row : Option Nat} {f : Int → Option Int} {c : Nat} (h : Own w b f c) (hg : w.grownBy w' row) (hne : some b ≠ row) : Own w' b f c := by
  obtain ⟨D, h, hD⟩ := h; exact ⟨D, h.kept hg hne, hD⟩
theorem Own.lt {w : World} {b : Nat} {f : Int → Option Int} {c : Nat} (h : Own w b f c) : b < w.heap.size := by
  obtain ⟨D, h, hD⟩ := h; exact h.lt

/-- Cells at block g: the maps bn (now) and bs (safe). -/
structure Box (w : World) (g : Nat) (room : Int) (bn bs : Nat) (fn : Int → Option Int) (cn : Nat) (fs : Int → Option Int) (cs : Nat) : Prop where
  c0 : w.cell? ⟨g, 0, none⟩ = some (.int .i64 room)
  c1 : w.cell? ⟨g, 1, none⟩ = some (.map (some bn))
  c2 : w.cell? ⟨g, 2, none⟩ = some (.map (some bs))
  f1 : w.frozen? ⟨g, 1, none⟩ = false
  f2 : w.frozen? ⟨g, 2, none⟩ = false
  own : Own w bn fn cn
  owns : Own w bs fs cs
  ng : bn ≠ g
  sg : bs ≠ g
  ns : bn ≠ bs
  lo : 1 ≤ room
  hi : room ≤ 10000
  le : cn ≤ 10000
  les : cs ≤ 10000
theorem cell_lt {w : World} {b o : Nat} {v : Value} (h : w.cell? ⟨b, o, none⟩ = some v) : b < w.heap.size := by
  unfold World.cell? at h
  split at h
  · rename_i hb
    exact (Array.getElem?_eq_some_iff.mp hb).1
  · simp at h
theorem Box.lt {w : World} {g : Nat} {room : Int} {bn bs : Nat} {fn : Int → Option Int} {cn : Nat} {fs : Int → Option Int} {cs : Nat} (h : Box w g room bn bs fn cn fs cs) : g < w.heap.size ∧ bn < w.heap.size ∧ bs < w.heap.size :=
  ⟨cell_lt h.c0, h.own.lt, h.owns.lt⟩
/-- What leaves the box alone. -/
theorem Box.kept {w w' : World} {g : Nat} {room : Int} {bn bs : Nat} {fn : Int → Option Int} {cn : Nat} {fs : Int → Option Int} {cs : Nat} {row : Option Nat} (h : Box w g room bn bs fn cn fs cs)
    (hg : w.grownBy w' row) (h1 : some g ≠ row) (h2 : some bn ≠ row) (h3 : some bs ≠ row) : Box w' g room bn bs fn cn fs cs :=
  have l := h.lt
  ⟨(hg.cell_far _ l.1 h1).trans h.c0, (hg.cell_far _ l.1 h1).trans h.c1, (hg.cell_far _ l.1 h1).trans h.c2, (hg.frozen_far _ l.1 h1).trans h.f1, (hg.frozen_far _ l.1 h1).trans h.f2,
    h.own.kept hg h2, h.owns.kept hg h3, h.ng, h.sg, h.ns, h.lo, h.hi, h.le, h.les⟩

theorem Own.drewN {w : World} {b : Nat} {f : Int → Option Int} {c : Nat} (h : Own w b f c) (n : Nat) : Own (w.drewN n) b f c := by
  obtain ⟨D, h, hD⟩ := h; exact ⟨D, h, hD⟩
theorem Box.drewN {w : World} {g : Nat} {room : Int} {bn bs : Nat} {fn : Int → Option Int} {cn : Nat} {fs : Int → Option Int} {cs : Nat} (h : Box w g room bn bs fn cn fs cs) (n : Nat) : Box (w.drewN n) g room bn bs fn cn fs cs :=
  ⟨h.c0, h.c1, h.c2, h.f1, h.f2, h.own.drewN n, h.owns.drewN n, h.ng, h.sg, h.ns, h.lo, h.hi, h.le, h.les⟩

set_option maxRecDepth 100000 in
set_option maxHeartbeats 800000 in
theorem good_any (g : Nat) (room : Int) (w : World) (c0 : w.cell? ⟨g, 0, none⟩ = some (.int .i64 room)) (hr : 1 ≤ room) :
    Calls Try.prog 33 #[.pointer (some ⟨g, 0, none⟩)] w fun r w' => r = .returned (.bool true) ∧ w = w' := by
  go_enter Try.func33, Try.ntmps33
  go_wp2
  go_ret
  exact ⟨by have : 0 < room := by omega
            simp [this], rfl⟩

set_option maxRecDepth 100000 in
set_option maxHeartbeats 800000 in
theorem get_any {g bn bs : Nat} {room k : Int} {fn fs : Int → Option Int} {cn cs : Nat} (w : World) (hb : Box w g room bn bs fn cn fs cs) (hk : (Lit.int .u8 k).wf = true) :
    Calls Try.prog 12 #[.pointer (some ⟨g, 0, none⟩), .int .u8 k] w fun r w' => r = .returned (.tuple #[.int .i64 ((fn k).getD 0), .int .i64 (if (fn k).isSome then 0 else 7)]) ∧ w = w' := by
  obtain ⟨D, hown, hD⟩ := hb.own
  have c1 := hb.c1
  go_enter Try.func12, Try.ntmps12
  cases hf : fn k with
  | none =>
    have hD1 : Maps.has D (kl k) = false := by rw [(hD.2 k).1, hf]; rfl
    have hD2 : ∀ v : Int, D.atKey (kl k) (.lit (.int .i64 0)) = .lit (.int .i64 v) → v = 0 := by
      intro v hv
      have := (hD.2 k).2
      rw [hf, hv] at this
      simpa using this
    clear hD
    go_wp2_with (first | (go_at_call 33; refine (good_any _ _ _ hb.c0 hb.lo).mono ?_; rintro e w' ⟨rfl, rfl⟩) | (at_lookup; refine wpList_lookup_own_ok_int _ rfl _ _ 69 rfl 5 2 .i64 keyed Try.underlying69 Try.underlying2 (zeroE _) bn cn D rfl hown _ (kl k) rfl (keyOf_int_mk Try.underlying5 hk) ?_; intro v hat hwv; obtain rfl := hD2 v hat) | go_in)
    simp [bodyPost, results, Try.results12, go_sem]
  | some x =>
    have hD1 : Maps.has D (kl k) = true := by rw [(hD.2 k).1, hf]; rfl
    have hD2 : ∀ v : Int, D.atKey (kl k) (.lit (.int .i64 0)) = .lit (.int .i64 v) → v = x := by
      intro v hv
      have := (hD.2 k).2
      rw [hf, hv] at this
      simpa using this
    clear hD
    go_wp2_with (first | (go_at_call 33; refine (good_any _ _ _ hb.c0 hb.lo).mono ?_; rintro e w' ⟨rfl, rfl⟩) | (at_lookup; refine wpList_lookup_own_ok_int _ rfl _ _ 69 rfl 5 2 .i64 keyed Try.underlying69 Try.underlying2 (zeroE _) bn cn D rfl hown _ (kl k) rfl (keyOf_int_mk Try.underlying5 hk) ?_; intro v hat hwv; obtain rfl := (hD2 v hat)) | go_in)
    simp [bodyPost, results, Try.results12, go_sem]

set_option maxRecDepth 100000 in
set_option maxHeartbeats 800000 in
theorem len_any {g bn bs : Nat} {room : Int} {fn fs : Int → Option Int} {cn cs : Nat} (w : World) (hb : Box w g room bn bs fn cn fs cs) :
    Calls Try.prog 16 #[.pointer (some ⟨g, 0, none⟩)] w fun r w' => r = .returned (.int .i64 (cn : Int)) ∧ w = w' := by
  obtain ⟨D, hown, hD⟩ := hb.own
  have c1 := hb.c1
  have hs := hD.1
  clear hD
  subst hs
  go_enter Try.func16, Try.ntmps16
  go_wp2_with (first | (go_at_call 33; refine (good_any _ _ _ hb.c0 hb.lo).mono ?_; rintro e w' ⟨rfl, rfl⟩) | (at_len; refine wpList_len_own _ rfl _ 69 rfl 5 2 Try.underlying69 _ bn _ D rfl hown ?_) | go_in)
  go_ret
  exact ⟨rfl, rfl⟩

set_option maxRecDepth 100000 in
set_option maxHeartbeats 800000 in
theorem clone_own {b c : Nat} {f : Int → Option Int} (w : World) (hown : Own w b f c) :
    Calls Try.prog 34 #[.map (some b)] w fun e w' => e = .returned (.map (some w.heap.size)) ∧ Own w' w.heap.size f c ∧ Below w.heap.size w w' := by
  obtain ⟨D, hown, hD⟩ := hown
  have hlt := hown.lt
  obtain ⟨es, clock, hb, F, hs, rfl⟩ := hown
  have H : Calls Try.prog 34 #[.map (some b)] w fun e w' => e = .returned (.map (some w.heap.size)) ∧ w' = w.alloc (.map es clock) := by
    clear hs hlt hD F
    have hq := fun w => run_eql_map_nil_sl (P := Try.prog) w 69 _ _ (some b) Try.underlying69
    go_enter Try.func34, Try.ntmps34
    go_wp2
    rw [run_callFunc_extern Try.func50 (by kernel_rfl) (by kernel_rfl) (by kernel_rfl) (e := Extern.MapsClone.clone) (by kernel_rfl), run_maps_clone_sl w 69 hb]
    simp only [Result.andThen]
    rw [Oper.upon_value]
    go_wp2
    rw [run_typeAssert_map_sl _ 69 20 _ _ _ Try.underlying69]
    simp only [Result.andThen]
    rw [Oper.upon_value]
    go_wp2
    go_ret
    exact ⟨rfl, rfl⟩
  refine H.mono fun e w' ⟨he, hw⟩ => ?_
  subst hw
  have hB : Below w.heap.size w (w.alloc (.map es clock)) := (Below.refl _ w).alloc (Nat.le_refl _) _
  exact ⟨he, ⟨_, ⟨es, clock, (MapKept.heap_alloc w _).1, F, hs, rfl⟩, hD⟩, hB⟩

def setC (fn : Int → Option Int) (cn : Nat) (k : Int) : Nat := if (fn k).isSome then cn else cn + 1
def dropC (fn : Int → Option Int) (cn : Nat) (k : Int) : Nat := if (fn k).isSome then cn - 1 else cn

set_option maxRecDepth 100000 in
set_option maxHeartbeats 1600000 in
theorem set_fits {g bn bs : Nat} {room k v : Int} {fn fs : Int → Option Int} {cn cs : Nat} (w : World) (hb : Box w g room bn bs fn cn fs cs) (hk : (Lit.int .u8 k).wf = true) (hv : (Lit.int .i64 v).wf = true) (hf : (fn k).isSome = true ∨ (cn : Int) < room) :
    Calls Try.prog 11 #[.pointer (some ⟨g, 0, none⟩), .int .u8 k, .int .i64 v] w fun r w' => r = .returned (.int .i64 0) ∧ Box w' g room bn bs (set fn k v) (setC fn cn k) fs cs ∧ w.grownBy w' (some bn) := by
  have HG := get_any w hb hk
  have fin : ∀ w1 D, w1.ownsMap Try.prog 5 (plainElem Try.prog 2) bn (cn + 1) (D.put (kl k) (.lit (.int .i64 v))) → w.grownBy w1 (some bn) → w.ownsMap Try.prog 5 (plainElem Try.prog 2) bn cn D → Reads D fn cn →
      Box w1 g room bn bs (set fn k v) (setC fn cn k) fs cs := by
    intro w1 D h1 hg hown hD
    have l := hb.lt
    have hn : some g ≠ some bn := fun h => hb.ng (Option.some.inj h).symm
    refine ⟨(hg.cell_far _ l.1 hn).trans hb.c0, (hg.cell_far _ l.1 hn).trans hb.c1, (hg.cell_far _ l.1 hn).trans hb.c2, (hg.frozen_far _ l.1 hn).trans hb.f1, (hg.frozen_far _ l.1 hn).trans hb.f2,
      own_of h1 (reads_set (hown.tidy keyed) hD k v trivial), hb.owns.kept hg (fun h => hb.ns (Option.some.inj h).symm), hb.ng, hb.sg, hb.ns, hb.lo, hb.hi, ?_, hb.les⟩
    have := hb.hi
    have := hb.le
    unfold setC; split <;> rename_i h
    · omega
    · rcases hf with hf | hf
      · exact absurd hf h
      · omega
  obtain ⟨D, hown, hD⟩ := hb.own
  have c0 := hb.c0
  have c1 := hb.c1
  have hs := hD.1
  have hle := hb.le
  subst hs
  have FIN := Lib.hid fin
  have HD := Lib.hid hD
  have HB := Lib.hid hb
  clear fin hD hb
  cases hfk : fn k with
  | none =>
    rw [hfk] at HG hf
    simp only [Option.isSome_none, Bool.false_eq_true, if_false, false_or] at HG hf
    have hlen : ∀ n ty, (Builtin.len_ #[69] ty #[.map (some bn)]).run Try.prog (w.drewN n) = .ok (.int .i64 (Maps.size D)) (w.drewN n) := fun n ty => World.ownsMap.len (w := w.drewN n) (R := plainElem Try.prog 2) (D := D) hown Try.underlying69 ty
    have hge : decide (room ≤ ((Maps.size D : Nat) : Int)) = false := by simp; omega
    go_enter Try.func11, Try.ntmps11
    go_wp2_with (go_at_call 12; refine HG.mono ?_; rintro e w' ⟨rfl, rfl⟩)
    go_quiet (fail)
    go_wp2_with (first | (at_mapUpdate; refine wpList_mapUpdate_own (w.drewN nq) rfl _ _ _ 69 rfl 5 2 keyed Try.underlying69 _ bn _ D rfl hown (by unfold maxLen; omega) _ _ _ rfl rfl (keyOf_int_mk Try.underlying5 hk) _ [] (plainElem_int Try.underlying2 hv) ?_; intro w1 hown1 hgrow1) | go_in)
    go_ret
    exact ⟨rfl, FIN.out w1 D hown1 ⟨hgrow1.os, hgrow1.tape, hgrow1.output, hgrow1.size, hgrow1.block⟩ hown HD.out, ⟨hgrow1.os, hgrow1.tape, hgrow1.output, hgrow1.size, hgrow1.block⟩⟩
  | some x =>
    rw [hfk] at HG
    clear hf
    simp only [Option.isSome_some, if_true] at HG
    have hlen : ∀ n ty, (Builtin.len_ #[69] ty #[.map (some bn)]).run Try.prog (w.drewN n) = .ok (.int .i64 (Maps.size D)) (w.drewN n) := fun n ty => World.ownsMap.len (w := w.drewN n) (R := plainElem Try.prog 2) (D := D) hown Try.underlying69 ty
    go_enter Try.func11, Try.ntmps11
    go_wp2_with (go_at_call 12; refine HG.mono ?_; rintro e w' ⟨rfl, rfl⟩)
    go_quiet (fail)
    go_wp2_with (first | (at_mapUpdate; refine wpList_mapUpdate_own (w.drewN nq) rfl _ _ _ 69 rfl 5 2 keyed Try.underlying69 _ bn _ D rfl hown (by unfold maxLen; omega) _ _ _ rfl rfl (keyOf_int_mk Try.underlying5 hk) _ [] (plainElem_int Try.underlying2 hv) ?_; intro w1 hown1 hgrow1) | go_in)
    go_ret
    exact ⟨rfl, FIN.out w1 D hown1 ⟨hgrow1.os, hgrow1.tape, hgrow1.output, hgrow1.size, hgrow1.block⟩ hown HD.out, ⟨hgrow1.os, hgrow1.tape, hgrow1.output, hgrow1.size, hgrow1.block⟩⟩

set_option maxRecDepth 100000 in
set_option maxHeartbeats 1600000 in
theorem set_full {g bn bs : Nat} {room k v : Int} {fn fs : Int → Option Int} {cn cs : Nat} (w : World) (hb : Box w g room bn bs fn cn fs cs) (hk : (Lit.int .u8 k).wf = true) (hf : (fn k) = none) (hfull : room ≤ (cn : Int)) :
    Calls Try.prog 11 #[.pointer (some ⟨g, 0, none⟩), .int .u8 k, .int .i64 v] w fun r w' => r = .returned (.int .i64 6) ∧ Box w' g room bn bs fn cn fs cs ∧ w.grownBy w' (some bn) := by
  have HB := Lib.hid hb
  have HG := get_any w hb hk
  obtain ⟨D, hown, hD⟩ := hb.own
  have c0 := hb.c0
  have c1 := hb.c1
  have hs := hD.1
  subst hs
  have HD := Lib.hid hD
  clear hD
  rw [hf] at HG
  simp only [Option.isSome_none, Bool.false_eq_true, if_false] at HG
  have hlen : ∀ n ty, (Builtin.len_ #[69] ty #[.map (some bn)]).run Try.prog (w.drewN n) = .ok (.int .i64 (Maps.size D)) (w.drewN n) := fun n ty => World.ownsMap.len (w := w.drewN n) (R := plainElem Try.prog 2) (D := D) hown Try.underlying69 ty
  have hge : decide (room ≤ ((Maps.size D : Nat) : Int)) = true := by simpa using hfull
  clear hf
  go_enter Try.func11, Try.ntmps11
  go_wp2_with (go_at_call 12; refine HG.mono ?_; rintro e w' ⟨rfl, rfl⟩)
  go_quiet (fail)
  go_wp2
  go_ret
  exact ⟨rfl, HB.out.drewN _, ⟨rfl, rfl, rfl, Nat.le_refl _, fun _ _ _ => rfl⟩⟩

set_option maxRecDepth 100000 in
set_option maxHeartbeats 1600000 in
theorem drop_any {g bn bs : Nat} {room k : Int} {fn fs : Int → Option Int} {cn cs : Nat} (w : World) (hb : Box w g room bn bs fn cn fs cs) (hk : (Lit.int .u8 k).wf = true) :
    Calls Try.prog 14 #[.pointer (some ⟨g, 0, none⟩), .int .u8 k] w fun r w' => r = .returned (.int .i64 (if (fn k).isSome then 0 else 7)) ∧ Box w' g room bn bs (drop fn k) (dropC fn cn k) fs cs ∧ w.grownBy w' (some bn) := by
  have HG := get_any w hb hk
  have fin : ∀ w1 D, w1.ownsMap Try.prog 5 (plainElem Try.prog 2) bn cn (D.del (kl k)) → w.grownBy w1 (some bn) → w.ownsMap Try.prog 5 (plainElem Try.prog 2) bn cn D → Reads D fn cn →
      Box w1 g room bn bs (drop fn k) (dropC fn cn k) fs cs := by
    intro w1 D h1 hg hown hD
    have l := hb.lt
    have hn : some g ≠ some bn := fun h => hb.ng (Option.some.inj h).symm
    refine ⟨(hg.cell_far _ l.1 hn).trans hb.c0, (hg.cell_far _ l.1 hn).trans hb.c1, (hg.cell_far _ l.1 hn).trans hb.c2, (hg.frozen_far _ l.1 hn).trans hb.f1, (hg.frozen_far _ l.1 hn).trans hb.f2,
      own_of h1 (reads_drop (hown.tidy keyed) hD k), hb.owns.kept hg (fun h => hb.ns (Option.some.inj h).symm), hb.ng, hb.sg, hb.ns, hb.lo, hb.hi, ?_, hb.les⟩
    have := hb.le
    unfold dropC; split <;> omega
  obtain ⟨D, hown, hD⟩ := hb.own
  have c1 := hb.c1
  cases hfk : fn k with
  | none =>
    rw [hfk] at HG
    simp only [Option.isSome_none, Bool.false_eq_true, if_false] at HG
    have e1 : drop fn k = fn := by funext j; unfold drop; split <;> simp_all
    have e2 : dropC fn cn k = cn := by unfold dropC; rw [hfk]; rfl
    have FIN : Hid (Box w g room bn bs (drop fn k) (dropC fn cn k) fs cs) := Lib.hid (by rw [e1, e2]; exact hb)
    clear fin hD e1 e2 hfk hb
    go_enter Try.func14, Try.ntmps14
    go_wp2_with (first | (go_at_call 12; refine HG.mono ?_; rintro e w' ⟨rfl, rfl⟩) | go_in)
    go_ret
    exact ⟨rfl, FIN.out, ⟨rfl, rfl, rfl, Nat.le_refl _, fun _ _ _ => rfl⟩⟩
  | some x =>
    rw [hfk] at HG
    simp only [Option.isSome_some, if_true] at HG
    have FIN := Lib.hid fin
    have HD := Lib.hid hD
    clear fin hD hfk hb
    go_enter Try.func14, Try.ntmps14
    go_wp2_with (first | (go_at_call 12; refine HG.mono ?_; rintro e w' ⟨rfl, rfl⟩) | (at_delete; refine wpList_delete_own _ rfl _ _ 69 5 rfl 2 keyed Try.underlying69 _ bn _ D rfl hown _ _ rfl (keyOf_int_mk Try.underlying5 hk) ?_; intro w1 hown1 hturn1) | go_in)
    go_ret
    exact ⟨rfl, FIN.out w1 D hown1 hturn1.grown hown HD.out, hturn1.grown⟩

theorem Own.setCell {w : World} {b : Nat} {f : Int → Option Int} {c : Nat} (h : Own w b f c) {a : Addr} (ha : b ≠ a.block) (u : Value) : Own (w.setCell a u) b f c := by
  obtain ⟨D, h, hD⟩ := h; exact ⟨D, h.setCell ha u, hD⟩
theorem Own.below {w w' : World} {b : Nat} {f : Int → Option Int} {c : Nat} (h : Own w b f c) (hB : Below w.heap.size w w') : Own w' b f c :=
  h.kept (row := none) ⟨hB.os, hB.tape, hB.output, hB.size, fun i hi _ => hB.block i hi⟩ (by simp)

theorem cell_set_eq {w : World} {p : Addr} {v x : Value} (h : w.cell? p = some x) (hs : p.spot = none) : (w.setCell p v).cell? p = some v := World.cell?_setCell_same _ _ _ h

theorem Box.synced {w w1 : World} {g bn bs : Nat} {room : Int} {fn fs : Int → Option Int} {cn cs : Nat} (hb : Box w g room bn bs fn cn fs cs) (hown1 : Own w1 w.heap.size fn cn) (hB : Below w.heap.size w w1) :
    Box (w1.setCell ⟨g, 2, none⟩ (.map (some w.heap.size))) g room bn w.heap.size fn cn fn cn ∧ w.grownBy (w1.setCell ⟨g, 2, none⟩ (.map (some w.heap.size))) (some g) := by
  obtain ⟨lg, ln, ls⟩ := hb.lt
  have hc := fun o => hB.cell (p := ⟨g, o, none⟩) lg
  have hf := fun o => hB.frozen (p := ⟨g, o, none⟩) lg
  have c0 := (hc 0).trans hb.c0
  have c1 := (hc 1).trans hb.c1
  have c2 := (hc 2).trans hb.c2
  have f1 := (hf 1).trans hb.f1
  have f2 := (hf 2).trans hb.f2
  refine ⟨⟨(World.cell?_setCell_other _ _ _ _ (by simp)).trans c0, (World.cell?_setCell_other _ _ _ _ (by simp)).trans c1, cell_set_eq c2 rfl, by simp [f1], by simp [f2], (hb.own.below hB).setCell hb.ng _, hown1.setCell (by show w.heap.size ≠ g; omega) _, hb.ng, by omega, by omega, hb.lo, hb.hi, hb.le, hb.le⟩,
    hB.os, hB.tape, hB.output, by simpa using hB.size, fun k hk hne => ?_⟩
  rw [Below.heap_setCell _ _ _ _ (fun h => hne (by rw [h]))]
  exact hB.block k hk
theorem Box.crashed {w w1 : World} {g bn bs : Nat} {room : Int} {fn fs : Int → Option Int} {cn cs : Nat} (hb : Box w g room bn bs fn cn fs cs) (hown1 : Own w1 w.heap.size fs cs) (hB : Below w.heap.size w w1) :
    Box (w1.setCell ⟨g, 1, none⟩ (.map (some w.heap.size))) g room w.heap.size bs fs cs fs cs ∧ w.grownBy (w1.setCell ⟨g, 1, none⟩ (.map (some w.heap.size))) (some g) := by
  obtain ⟨lg, ln, ls⟩ := hb.lt
  have hc := fun o => hB.cell (p := ⟨g, o, none⟩) lg
  have hf := fun o => hB.frozen (p := ⟨g, o, none⟩) lg
  have c0 := (hc 0).trans hb.c0
  have c1 := (hc 1).trans hb.c1
  have c2 := (hc 2).trans hb.c2
  have f1 := (hf 1).trans hb.f1
  have f2 := (hf 2).trans hb.f2
  refine ⟨⟨(World.cell?_setCell_other _ _ _ _ (by simp)).trans c0, cell_set_eq c1 rfl, (World.cell?_setCell_other _ _ _ _ (by simp)).trans c2, by simp [f1], by simp [f2], hown1.setCell (by show w.heap.size ≠ g; omega) _, (hb.owns.below hB).setCell hb.sg _, by omega, hb.sg, by omega, hb.lo, hb.hi, hb.les, hb.les⟩,
    hB.os, hB.tape, hB.output, by simpa using hB.size, fun k hk hne => ?_⟩
  rw [Below.heap_setCell _ _ _ _ (fun h => hne (by rw [h]))]
  exact hB.block k hk

set_option maxRecDepth 100000 in
set_option maxHeartbeats 1600000 in
theorem sync_any {g bn bs : Nat} {room : Int} {fn fs : Int → Option Int} {cn cs : Nat} (w : World) (hb : Box w g room bn bs fn cn fs cs) :
    Calls Try.prog 13 #[.pointer (some ⟨g, 0, none⟩)] w fun r w' => r = .returned (.int .i64 0) ∧ Box w' g room bn w.heap.size fn cn fn cn ∧ w.grownBy w' (some g) := by
  obtain ⟨lg, ln, ls⟩ := hb.lt
  have c1 := hb.c1
  go_enter Try.func13, Try.ntmps13
  go_wp2_with (first | (go_at_call 33; refine (good_any _ _ _ hb.c0 hb.lo).mono ?_; rintro e w' ⟨rfl, rfl⟩) | (go_at_call 34; refine (clone_own _ hb.own).mono ?_; rintro e w1 ⟨rfl, hown1, hB⟩; have f2' := (hB.frozen (p := ⟨g, 2, none⟩) lg).trans hb.f2; have c2' := (hB.cell (p := ⟨g, 2, none⟩) lg).trans hb.c2) | go_in)
  go_ret
  exact ⟨rfl, hb.synced hown1 hB⟩

set_option maxRecDepth 100000 in
set_option maxHeartbeats 1600000 in
theorem crash_any {g bn bs : Nat} {room : Int} {fn fs : Int → Option Int} {cn cs : Nat} (w : World) (hb : Box w g room bn bs fn cn fs cs) :
    Calls Try.prog 15 #[.pointer (some ⟨g, 0, none⟩)] w fun r w' => r = .returned (.int .i64 0) ∧ Box w' g room w.heap.size bs fs cs fs cs ∧ w.grownBy w' (some g) := by
  obtain ⟨lg, ln, ls⟩ := hb.lt
  have c2 := hb.c2
  go_enter Try.func15, Try.ntmps15
  go_wp2_with (first | (go_at_call 33; refine (good_any _ _ _ hb.c0 hb.lo).mono ?_; rintro e w' ⟨rfl, rfl⟩) | (go_at_call 34; refine (clone_own _ hb.owns).mono ?_; rintro e w1 ⟨rfl, hown1, hB⟩; have f1' := (hB.frozen (p := ⟨g, 1, none⟩) lg).trans hb.f1; have c1' := (hB.cell (p := ⟨g, 1, none⟩) lg).trans hb.c1) | go_in)
  go_ret
  exact ⟨rfl, hb.crashed hown1 hB⟩

theorem own_made (w : World) : Own (w.alloc (.map #[] 0)) w.heap.size none_ 0 := ⟨_, World.ownsMap_made w _ _ _, reads_none⟩

set_option maxRecDepth 100000 in
set_option maxHeartbeats 1600000 in
theorem new_any (room : Int) (w : World) (lo : 1 ≤ room) (hi : room ≤ 10000) :
    Calls Try.prog 10 #[.int .i64 room] w fun r w' => ∃ g bn bs, r = .returned (.pointer (some ⟨g, 0, none⟩)) ∧ Box w' g room bn bs none_ 0 none_ 0 ∧ Below w.heap.size w w' ∧ w.heap.size ≤ g ∧ w.heap.size ≤ bn ∧ w.heap.size ≤ bs := by
  have hmm := @run_makeMap Try.prog
  go_enter Try.func10, Try.ntmps10
  go_wp2
  go_ret
  refine ⟨w.heap.size + 1 + 1, w.heap.size, w.heap.size + 1, rfl, ?_, ?_, by omega, by omega, by omega⟩
  · have o1 := own_made w
    have o2 := own_made (w.alloc (.map #[] 0))
    have o1' := Own.kept o1 (World.grownBy_alloc _ (.map #[] 0) none) (by simp)
    have z : (w.alloc (.map #[] 0)).heap.size = w.heap.size + 1 := by simp
    rw [z] at o2
    refine ⟨World.cell?_alloc_at _ _ _ _ (by simp), World.cell?_alloc_at _ _ _ _ (by simp), World.cell?_alloc_at _ _ _ _ (by simp), World.frozen?_alloc_at _ _ _ _ (by simp), World.frozen?_alloc_at _ _ _ _ (by simp), Own.kept o1' (World.grownBy_alloc _ _ none) (by simp), Own.kept o2 (World.grownBy_alloc _ _ none) (by simp), by omega, by omega, by omega, lo, hi, by omega, by omega⟩
  · exact ((((Below.refl _ _).alloc (Nat.le_refl _) _).alloc (by simp) _).alloc (by simp; omega) _)
end Go.Proofs.Ytcenfolmajegeaa.Cells
