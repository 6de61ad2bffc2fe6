/- Steps in memory; what package script's fields and Decode answer. -/
import Derived.Test.YtammpdifkpfafaaGreatDoorScriptSpec
import Derived.Test.YtammpdifkpfafaaGreatDoorBytes
import Derived.LoopTactic
import Derived.Deep.LoopGhost
import Derived.Deep.Onto
import Derived.Maps.AppendAt
import Derived.Deep.AppendLies
namespace Go.Proofs.YtammpdifkpfafaaGreatDoor.Script
open Go.RowKit Flat ByteMem ScriptSpec
set_option linter.unusedSimpArgs false
set_option linter.unusedVariables false
set_option maxRecDepth 100000

def scell (s : St) : List Value := [.int .i64 s.what, .int .i64 s.tx, .int .u8 s.a, .int .u8 s.b, .int .i64 s.kind, .int .u8 s.key, .int .i64 s.n]
/-- A step at block b. -/
structure StAt (w : World) (b : Nat) (s : St) : Prop where
  c0 : w.cell? ⟨b, 0, none⟩ = some (.int .i64 s.what)
  c1 : w.cell? ⟨b, 1, none⟩ = some (.int .i64 s.tx)
  c2 : w.cell? ⟨b, 2, none⟩ = some (.int .u8 s.a)
  c3 : w.cell? ⟨b, 3, none⟩ = some (.int .u8 s.b)
  c4 : w.cell? ⟨b, 4, none⟩ = some (.int .i64 s.kind)
  c5 : w.cell? ⟨b, 5, none⟩ = some (.int .u8 s.key)
  c6 : w.cell? ⟨b, 6, none⟩ = some (.int .i64 s.n)
  fz : ∀ o, w.frozen? ⟨b, o, none⟩ = false
theorem StAt.lt {w : World} {b : Nat} {s : St} (h : StAt w b s) : b < w.heap.size := Flat.cell_lt h.c0
theorem set_other {w : World} {g a b : Nat} {v : Value} (h : a ≠ b) : (w.setCell ⟨g, a, none⟩ v).cell? ⟨g, b, none⟩ = w.cell? ⟨g, b, none⟩ :=
  World.cell?_setCell_other _ _ _ _ (by simp <;> exact h)
theorem set_same {w : World} {g a : Nat} {u v : Value} (h : w.cell? ⟨g, a, none⟩ = some u) : (w.setCell ⟨g, a, none⟩ v).cell? ⟨g, a, none⟩ = some v :=
  World.cell?_setCell_same' _ _ _ (by rw [h]; rfl)
theorem StAt.kept {w w' : World} {b : Nat} {s : St} (h : StAt w b s) (hb : Below w.heap.size w w') : StAt w' b s := by
  have c : ∀ o, w'.cell? ⟨b, o, none⟩ = w.cell? ⟨b, o, none⟩ := fun o => hb.cell (p := ⟨b, o, none⟩) h.lt
  exact ⟨(c _).trans h.c0, (c _).trans h.c1, (c _).trans h.c2, (c _).trans h.c3, (c _).trans h.c4, (c _).trans h.c5, (c _).trans h.c6, fun o => (hb.frozen (p := ⟨b, o, none⟩) h.lt).trans (h.fz o)⟩
/-- The code of a field. -/
def fnum : Fld → Nat
  | .tx => 38
  | .a => 39
  | .b => 40
  | .kind => 42
  | .key => 43
  | .n => 41
  | .signed => 44
/-- What a field's code does to a step. -/
def SetPost (w : World) (b : Nat) (s : St) (c : Int) (f : Fld) (r : Ending) (w' : World) : Prop := r = .returned (.tuple #[]) ∧ StAt w' b (put s c f) ∧ ∃ o v, w' = w.setCell ⟨b, o, none⟩ v
set_option maxHeartbeats 1000000 in
theorem set_tx (w : World) (b : Nat) (s : St) (c : Nat) (h : StAt w b s) (hc : c < 256) : Calls Tryz.prog 38 #[.pointer (some ⟨b, 0, none⟩), .int .u8 (c : Int)] w (SetPost w b s c .tx) := by
  have H := Lib.hid h
  have c1 := h.c1
  have fz := h.fz 1
  clear h
  go_enter Tryz.func38, Tryz.ntmps38
  go_wp2_with fail
  go_end0
  have h := H.out
  exact ⟨rfl, ⟨(set_other (by decide)).trans h.c0, set_same h.c1, (set_other (by decide)).trans h.c2, (set_other (by decide)).trans h.c3, (set_other (by decide)).trans h.c4, (set_other (by decide)).trans h.c5, (set_other (by decide)).trans h.c6, fun o => by simp [h.fz o]⟩, _, _, rfl⟩
set_option maxHeartbeats 1000000 in
theorem set_a (w : World) (b : Nat) (s : St) (c : Nat) (h : StAt w b s) (hc : c < 256) : Calls Tryz.prog 39 #[.pointer (some ⟨b, 0, none⟩), .int .u8 (c : Int)] w (SetPost w b s c .a) := by
  have H := Lib.hid h
  have c2 := h.c2
  have fz := h.fz 2
  clear h
  go_enter Tryz.func39, Tryz.ntmps39
  go_wp2_with fail
  go_end0
  have h := H.out
  exact ⟨rfl, ⟨(set_other (by decide)).trans h.c0, (set_other (by decide)).trans h.c1, set_same h.c2, (set_other (by decide)).trans h.c3, (set_other (by decide)).trans h.c4, (set_other (by decide)).trans h.c5, (set_other (by decide)).trans h.c6, fun o => by simp [h.fz o]⟩, _, _, rfl⟩
set_option maxHeartbeats 1000000 in
theorem set_b (w : World) (b : Nat) (s : St) (c : Nat) (h : StAt w b s) (hc : c < 256) : Calls Tryz.prog 40 #[.pointer (some ⟨b, 0, none⟩), .int .u8 (c : Int)] w (SetPost w b s c .b) := by
  have H := Lib.hid h
  have c3 := h.c3
  have fz := h.fz 3
  clear h
  go_enter Tryz.func40, Tryz.ntmps40
  go_wp2_with fail
  go_end0
  have h := H.out
  exact ⟨rfl, ⟨(set_other (by decide)).trans h.c0, (set_other (by decide)).trans h.c1, (set_other (by decide)).trans h.c2, set_same h.c3, (set_other (by decide)).trans h.c4, (set_other (by decide)).trans h.c5, (set_other (by decide)).trans h.c6, fun o => by simp [h.fz o]⟩, _, _, rfl⟩
set_option maxHeartbeats 1000000 in
theorem set_kind (w : World) (b : Nat) (s : St) (c : Nat) (h : StAt w b s) (hc : c < 256) : Calls Tryz.prog 42 #[.pointer (some ⟨b, 0, none⟩), .int .u8 (c : Int)] w (SetPost w b s c .kind) := by
  have H := Lib.hid h
  have c4 := h.c4
  have fz := h.fz 4
  clear h
  go_enter Tryz.func42, Tryz.ntmps42
  go_wp2_with fail
  go_end0
  have h := H.out
  exact ⟨rfl, ⟨(set_other (by decide)).trans h.c0, (set_other (by decide)).trans h.c1, (set_other (by decide)).trans h.c2, (set_other (by decide)).trans h.c3, set_same h.c4, (set_other (by decide)).trans h.c5, (set_other (by decide)).trans h.c6, fun o => by simp [h.fz o]⟩, _, _, rfl⟩
set_option maxHeartbeats 1000000 in
theorem set_key (w : World) (b : Nat) (s : St) (c : Nat) (h : StAt w b s) (hc : c < 256) : Calls Tryz.prog 43 #[.pointer (some ⟨b, 0, none⟩), .int .u8 (c : Int)] w (SetPost w b s c .key) := by
  have H := Lib.hid h
  have c5 := h.c5
  have fz := h.fz 5
  clear h
  go_enter Tryz.func43, Tryz.ntmps43
  go_wp2_with fail
  go_end0
  have h := H.out
  exact ⟨rfl, ⟨(set_other (by decide)).trans h.c0, (set_other (by decide)).trans h.c1, (set_other (by decide)).trans h.c2, (set_other (by decide)).trans h.c3, (set_other (by decide)).trans h.c4, set_same h.c5, (set_other (by decide)).trans h.c6, fun o => by simp [h.fz o]⟩, _, _, rfl⟩
set_option maxHeartbeats 1000000 in
theorem set_n (w : World) (b : Nat) (s : St) (c : Nat) (h : StAt w b s) (hc : c < 256) : Calls Tryz.prog 41 #[.pointer (some ⟨b, 0, none⟩), .int .u8 (c : Int)] w (SetPost w b s c .n) := by
  have H := Lib.hid h
  have c6 := h.c6
  have fz := h.fz 6
  clear h
  go_enter Tryz.func41, Tryz.ntmps41
  go_wp2_with fail
  go_end0
  have h := H.out
  exact ⟨rfl, ⟨(set_other (by decide)).trans h.c0, (set_other (by decide)).trans h.c1, (set_other (by decide)).trans h.c2, (set_other (by decide)).trans h.c3, (set_other (by decide)).trans h.c4, (set_other (by decide)).trans h.c5, set_same h.c6, fun o => by simp [h.fz o]⟩, _, _, rfl⟩
set_option maxHeartbeats 1000000 in
theorem set_signed (w : World) (b : Nat) (s : St) (c : Nat) (h : StAt w b s) (hc : c < 256) : Calls Tryz.prog 44 #[.pointer (some ⟨b, 0, none⟩), .int .u8 (c : Int)] w (SetPost w b s c .signed) := by
  have H := Lib.hid h
  have c6 := h.c6
  have fz := h.fz 6
  clear h
  go_enter Tryz.func44, Tryz.ntmps44
  go_wp2_with fail
  go_end0
  have h := H.out
  exact ⟨rfl, ⟨(set_other (by decide)).trans h.c0, (set_other (by decide)).trans h.c1, (set_other (by decide)).trans h.c2, (set_other (by decide)).trans h.c3, (set_other (by decide)).trans h.c4, (set_other (by decide)).trans h.c5, set_same h.c6, fun o => by simp [h.fz o]⟩, _, _, rfl⟩
/-- Whatever field. -/
theorem set_any (w : World) (b : Nat) (s : St) (c : Nat) (f : Fld) (h : StAt w b s) (hc : c < 256) : Calls Tryz.prog (fnum f) #[.pointer (some ⟨b, 0, none⟩), .int .u8 (c : Int)] w (SetPost w b s c f) := by
  cases f with
  | tx => exact set_tx w b s c h hc
  | a => exact set_a w b s c h hc
  | b => exact set_b w b s c h hc
  | kind => exact set_kind w b s c h hc
  | key => exact set_key w b s c h hc
  | n => exact set_n w b s c h hc
  | signed => exact set_signed w b s c h hc
/-- Fields in a row from block B on. -/
def FieldsAt (w : World) (B : Nat) (v : Value) (l : List Fld) : Prop :=
  ∃ a, v = .slice a l.length l.length ∧ (0 < l.length → ∃ g, a = some ⟨g, 0, none⟩ ∧ B ≤ g ∧ g < w.heap.size ∧ ∀ i (h : i < l.length), w.cell? ⟨g, i, none⟩ = some (.func (.func (fnum l[i])) #[] #[]))
def FieldsPost (w : World) (l : List Fld) (r : Ending) (w' : World) : Prop := ∃ v, r = .returned v ∧ FieldsAt w' w.heap.size v l ∧ Below w.heap.size w w'
theorem fields_lit {w : World} {l : List Fld} {t : TypeId} (hl : 0 < l.length) :
    FieldsAt (w.alloc (.cells (l.map fun f => Value.func (.func (fnum f)) #[] #[]).toArray t)) w.heap.size (.slice (some ⟨w.heap.size, 0, none⟩) l.length l.length) l := by
  refine ⟨_, rfl, fun _ => ⟨w.heap.size, rfl, Nat.le_refl _, by simp, fun i hi => ?_⟩⟩
  rw [World.cell?_alloc_new]
  simp [hi]
theorem what_cases {what : Nat} (h : what < 15) (h0 : what ≠ 0) : what = 1 ∨ what = 2 ∨ what = 3 ∨ what = 4 ∨ what = 5 ∨ what = 6 ∨ what = 7 ∨ what = 8 ∨ what = 9 ∨ what = 10 ∨ what = 11 ∨ what = 12 ∨ what = 13 ∨ what = 14 := by omega
set_option maxHeartbeats 4000000 in
theorem fields_any (what : Nat) (h : what < 15) (h0 : what ≠ 0) (w : World) : Calls Tryz.prog 22 #[.int .i64 (what : Int)] w (FieldsPost w (fds what)) := by
  rcases what_cases h h0 with rfl | rfl | rfl | rfl | rfl | rfl | rfl | rfl | rfl | rfl | rfl | rfl | rfl | rfl
  · go_enter Tryz.func22, Tryz.ntmps22
    go_wp2_with fail
    go_ret
    exact ⟨_, rfl, fields_lit (w := w) (l := fds 1) (by decide), (Below.refl _ _).alloc (Nat.le_refl _) _⟩
  · go_enter Tryz.func22, Tryz.ntmps22
    go_wp2_with fail
    go_ret
    exact ⟨_, rfl, fields_lit (w := w) (l := fds 2) (by decide), (Below.refl _ _).alloc (Nat.le_refl _) _⟩
  · go_enter Tryz.func22, Tryz.ntmps22
    go_wp2_with fail
    go_ret
    exact ⟨_, rfl, fields_lit (w := w) (l := fds 3) (by decide), (Below.refl _ _).alloc (Nat.le_refl _) _⟩
  · go_enter Tryz.func22, Tryz.ntmps22
    go_wp2_with fail
    go_ret
    exact ⟨_, rfl, fields_lit (w := w) (l := fds 4) (by decide), (Below.refl _ _).alloc (Nat.le_refl _) _⟩
  · go_enter Tryz.func22, Tryz.ntmps22
    go_wp2_with fail
    go_ret
    exact ⟨_, rfl, fields_lit (w := w) (l := fds 5) (by decide), (Below.refl _ _).alloc (Nat.le_refl _) _⟩
  · go_enter Tryz.func22, Tryz.ntmps22
    go_wp2_with fail
    go_ret
    exact ⟨_, rfl, fields_lit (w := w) (l := fds 6) (by decide), (Below.refl _ _).alloc (Nat.le_refl _) _⟩
  · go_enter Tryz.func22, Tryz.ntmps22
    go_wp2_with fail
    go_ret
    exact ⟨_, rfl, fields_lit (w := w) (l := fds 7) (by decide), (Below.refl _ _).alloc (Nat.le_refl _) _⟩
  · go_enter Tryz.func22, Tryz.ntmps22
    go_wp2_with fail
    go_ret
    exact ⟨_, rfl, fields_lit (w := w) (l := fds 8) (by decide), (Below.refl _ _).alloc (Nat.le_refl _) _⟩
  · go_enter Tryz.func22, Tryz.ntmps22
    go_wp2_with fail
    go_ret
    exact ⟨_, rfl, fields_lit (w := w) (l := fds 9) (by decide), (Below.refl _ _).alloc (Nat.le_refl _) _⟩
  · go_enter Tryz.func22, Tryz.ntmps22
    go_wp2_with fail
    go_ret
    exact ⟨_, rfl, fields_lit (w := w) (l := fds 10) (by decide), (Below.refl _ _).alloc (Nat.le_refl _) _⟩
  · go_enter Tryz.func22, Tryz.ntmps22
    go_wp2_with fail
    go_ret
    exact ⟨_, rfl, fields_lit (w := w) (l := fds 11) (by decide), (Below.refl _ _).alloc (Nat.le_refl _) _⟩
  · go_enter Tryz.func22, Tryz.ntmps22
    go_wp2_with fail
    go_ret
    exact ⟨_, rfl, fields_lit (w := w) (l := fds 12) (by decide), (Below.refl _ _).alloc (Nat.le_refl _) _⟩
  · go_enter Tryz.func22, Tryz.ntmps22
    go_wp2_with fail
    go_ret
    exact ⟨_, rfl, fields_lit (w := w) (l := fds 13) (by decide), (Below.refl _ _).alloc (Nat.le_refl _) _⟩
  · go_enter Tryz.func22, Tryz.ntmps22
    go_wp2_with fail
    go_ret
    exact ⟨_, rfl, ⟨none, rfl, fun h => absurd h (by decide)⟩, Below.refl _ _⟩
end Go.Proofs.YtammpdifkpfafaaGreatDoor.Script
