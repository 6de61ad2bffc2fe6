/- What note.Decode answers. -/
import Derived.Test.YtbkkomknajgpdaaDoorNoteREnc
import Derived.Test.YtbkkomknajgpdaaDoorTakeq
namespace Go.Proofs.YtbkkomknajgpdaaDoor.NoteCode
open Go.RowKit CodeSpec SumSpec NoteSpec Flat CodeMem SumMem NoteNum Note Go.Proofs.YtbkkomknajgpdaaDoorW.PrintLast
set_option linter.unusedSimpArgs false
set_option linter.unusedVariables false
set_option maxRecDepth 100000

theorem u8_wrap (n : Nat) (h : n < 256) : IntKind.u8.wrap (n : Int) = n := by
  simp [IntKind.wrap, IntKind.bits, IntKind.signed]
  omega
def NDPost (T : N × Int) (w : World) (e : Ending) (w' : World) : Prop :=
  e = .returned (.tuple #[.agg #[.int .i64 T.1.k, .int .u8 T.1.m, .int .i64 T.1.tx, .int .i64 T.1.ep, .int .i64 T.1.v, .int .i64 T.1.hk, .int .u8 T.1.hf, .int .u8 T.1.ht, .int .i64 T.1.he, .string T.1.hc], .int .i64 T.2]) ∧ Below w.heap.size w w'

set_option maxHeartbeats 1000000 in
theorem num_any (c b off cap len i : Nat) (n : Nat) (w : World) (hc : w.cell? ⟨c, 0, none⟩ = some (.slice (some ⟨b, off, none⟩) len cap)) (hi : (i : Int) < (len : Int)) (hn : w.cell? ⟨b, off + i * 2, none⟩ = some (.int .u64 (n : Int))) (h32 : (n : Int) < 4294967296) :
    Calls Tryd.prog 25 #[.int .i64 (i : Int), .pointer (some ⟨c, 0, none⟩)] w fun e w' => e = .returned (.int .i64 (n : Int)) ∧ w = w' := by
  go_enter Tryd.func25, Tryd.ntmps25
  go_wp2_with fail
  go_ret
  exact ⟨rfl, rfl⟩
theorem num_at (c b off cap len i : Nat) (ii : Int) (n : Nat) (w : World) (hii : ii = (i : Int)) (hc : w.cell? ⟨c, 0, none⟩ = some (.slice (some ⟨b, off, none⟩) len cap)) (hi : i < len) (hn : w.cell? ⟨b, off + i * 2, none⟩ = some (.int .u64 (n : Int))) (h32 : (n : Int) < 4294967296) :
    Calls Tryd.prog 25 #[.int .i64 ii, .pointer (some ⟨c, 0, none⟩)] w fun e w' => e = .returned (.int .i64 (n : Int)) ∧ w = w' := by
  rw [hii]; exact num_any c b off cap len i n w hc (by omega) hn h32
def NewN (w : World) (g : Nat) (x : N) (wx : World) : Prop :=
  w.heap.size ≤ g ∧ g < wx.heap.size ∧ (wx.cell? ⟨g, 0, none⟩ = some (.int .i64 x.k) ∧ wx.cell? ⟨g, 1, none⟩ = some (.int .u8 x.m) ∧ wx.cell? ⟨g, 2, none⟩ = some (.int .i64 x.tx) ∧ wx.cell? ⟨g, 3, none⟩ = some (.int .i64 x.ep) ∧ wx.cell? ⟨g, 4, none⟩ = some (.int .i64 x.v) ∧
    wx.cell? ⟨g, 5, none⟩ = some (.int .i64 x.hk) ∧ wx.cell? ⟨g, 6, none⟩ = some (.int .u8 x.hf) ∧ wx.cell? ⟨g, 7, none⟩ = some (.int .u8 x.ht) ∧ wx.cell? ⟨g, 8, none⟩ = some (.int .i64 x.he) ∧ wx.cell? ⟨g, 9, none⟩ = some (.string x.hc)) ∧ Below w.heap.size w wx
theorem keepS {w w' : World} {c b o : Nat} {x y : Value} (hB : Below w.heap.size w w') (hc : c < w.heap.size) (hcb : w.cell? ⟨c, 0, none⟩ = some x) (hb : b < w.heap.size) (d : w.cell? ⟨b, o, none⟩ = some y) :
    Below w.heap.size w w' ∧ w'.cell? ⟨c, 0, none⟩ = some x ∧ w'.cell? ⟨b, o, none⟩ = some y :=
  ⟨hB, (hB.cell (p := ⟨c, 0, none⟩) hc).trans hcb, (hB.cell (p := ⟨b, o, none⟩) hb).trans d⟩
def ndecV (T : List V × Int) : N × Int :=
  match T with
  | ([k, m, tx, ep, v, mk, mf, mt, me, c], 0) => if rightB k.n m.n tx.n ep.n v.n mk.n mf.n mt.n me.n c.s = false then (bad, 4) else (⟨k.n, m.n, tx.n, ep.n, v.n, mk.n, mf.n, mt.n, me.n, c.s⟩, 0)
  | _ => (bad, 4)
def ndecT (T : List UInt8 × Int × Int) (len : Int) : N × Int := if T.2.2 ≠ 0 ∨ T.2.1 ≠ len then (bad, 4) else ndecV (dec nshape T.1)
theorem first_le {b x : List UInt8} {k : Int} (h : firstS b = (x, k, 0)) : k ≤ (b.length : Int) := by
  obtain ⟨_, r, hb, hk⟩ := first_ok h
  have h2 : (frame x).length = x.length + 7 := by rw [frame, List.length_append, body_length, length_be]
  rw [hb, hk, List.length_append, h2]
  omega
theorem nd_bad {l : List UInt8} {w w' : World} (h : ndecR l = (bad, 4)) (hB : Below w.heap.size w w') :
    NDPost (ndecR l) w (.returned (.tuple #[.agg #[.int .i64 0, .int .u8 0, .int .i64 0, .int .i64 0, .int .i64 0, .int .i64 0, .int .u8 0, .int .u8 0, .int .i64 0, .string ⟨#[]⟩], .int .i64 4])) w' := by
  rw [h]; exact ⟨rfl, hB⟩
set_option maxHeartbeats 2000000 in
theorem decode_note (a : Option Addr) (l : List UInt8) (cap : Nat) (w : World) (hlen : l.length ≤ 1000000) (hib : IsB w w.heap.size a l) (hlc : l.length ≤ cap) (hcm : cap ≤ maxLen) :
    Calls Tryd.prog 12 #[.slice a l.length cap] w (NDPost (ndecR l) w) := by
  have HF := fun W (h : Below w.heap.size w W) => first_any a l cap W hlen (isB_up hib h) hlc hcm
  have HFS := fun x k => @first_le l x k
  have HND : ndecR l = ndecT (firstS l) (l.length : Int) := rfl
  generalize firstS l = T at HF HFS HND
  obtain ⟨y, kk, er⟩ := T
  unfold ndecT at HND
  dsimp only at HND
  by_cases he : er = 0
  · subst he
    have hk := HFS _ _ rfl
    by_cases hkl : kk = (l.length : Int)
    · rw [if_neg (by simp [hkl])] at HND
      subst hkl
      have HF2 := Lib.hid HF
      have HNDH := Lib.hid HND
      clear HF HFS hk HND
      go_enter Tryd.func12, Tryd.ntmps12
      go_wp2_with fail
      refine (HF2.out _ (by repeat (first | (with_reducible exact Below.refl _ _) | (with_reducible assumption) | (with_reducible refine bw_alloc ?_) | (with_reducible refine bw_drew ?_) | (with_reducible refine bw_drewN ?_) | (with_reducible refine bw_set ?_ (by first | (simp; done) | (dsimp only; omega))) | (with_reducible refine bw_via (by assumption) ?_)))).mono ?_
      rintro r v1 ⟨a1, c1, rfl, h1, h2, h3, hb1⟩
      dsimp only at h1 h3
      obtain ⟨c_hb1, f_hb1, z_hb1⟩ := bcell hb1; have z0_hb1 := z_hb1 (w.heap.size) (by first | omega | (simp only [World.size_alloc, World.size_setCell, World.size_drew, World.heap_drewN] <;> omega)); clear z_hb1
      have hB1 : Below w.heap.size w v1 := by repeat (first | (with_reducible exact Below.refl _ _) | (with_reducible assumption) | (with_reducible refine bw_alloc ?_) | (with_reducible refine bw_drew ?_) | (with_reducible refine bw_drewN ?_) | (with_reducible refine bw_set ?_ (by first | (simp; done) | (dsimp only; omega))) | (with_reducible refine bw_via (by assumption) ?_))
      go_wp2_with fail
      have HD := decode_use nshapeS a1 y c1 v1 (by unfold maxLen; decide) h3 h1 h2
      rw [nshapeS_list] at HD
      refine HD.mono ?_
      clear HD HF2 h1 h2 h3
      generalize hD : dec nshape y = D at HNDH
      obtain ⟨vs, n⟩ := D
      rintro r v2 ⟨vv, rfl, hv, _, hb2⟩
      dsimp only at hv
      have hB2 : Below w.heap.size w v2 := hB1.trans (hb2.mono hB1.size)
      have hb12 := hb1.trans (hb2.mono hb1.size)
      clear c_hb1 f_hb1 z0_hb1 hb1 hb2 hB1
      obtain ⟨c_hb12, f_hb12, z_hb12⟩ := bcell hb12; have z0_hb12 := z_hb12 (w.heap.size) (by first | omega | (simp only [World.size_alloc, World.size_setCell, World.size_drew, World.heap_drewN] <;> omega)); clear z_hb12
      obtain ⟨a2, c2, rfl, _, _, hcells⟩ := hv
      by_cases hn : n = 0
      · subst hn
        obtain ⟨k, m, tx, ep, v, mk, mf, mt, me, mc, rfl, g1, g2, g3, g4, g5, g6, g7, g8, g9, g10⟩ := ndec hD
        obtain ⟨b2, off, rfl, hb2, hcells⟩ := hcells (Nat.zero_lt_succ 9)
        clear hD
        go_wp2_with fail
        generalize hv3 : World.alloc v2 _ = v3
        obtain ⟨hb3, hz3, hcb⟩ := alloc_facts hv3
        have hcb := hcb 0
        rw [show (#[Value.slice (some ⟨b2, off, none⟩) (nvals k m tx ep v mk mf mt me mc).length c2])[0]? = some (.slice (some ⟨b2, off, none⟩) 10 c2) from rfl] at hcb
        have d : ∀ (i : Nat) (h : i < 10), v3.cell? ⟨b2, off + i * 2, none⟩ = some (.int .u64 ((nvals k m tx ep v mk mf mt me mc)[i].n : Int)) := fun i h => (hb3.cell (p := ⟨b2, off + i * 2, none⟩) hb2).trans (hcells i h).1
        have d0 : v3.cell? ⟨b2, off + 0 * 2, none⟩ = some (.int .u64 (k : Int)) := d 0 (by decide)
        have d1 : v3.cell? ⟨b2, off + 1 * 2, none⟩ = some (.int .u64 (m : Int)) := d 1 (by decide)
        have d2 : v3.cell? ⟨b2, off + 2 * 2, none⟩ = some (.int .u64 (tx : Int)) := d 2 (by decide)
        have d3 : v3.cell? ⟨b2, off + 3 * 2, none⟩ = some (.int .u64 (ep : Int)) := d 3 (by decide)
        have d4 : v3.cell? ⟨b2, off + 4 * 2, none⟩ = some (.int .u64 (v : Int)) := d 4 (by decide)
        have d5 : v3.cell? ⟨b2, off + 5 * 2, none⟩ = some (.int .u64 (mk : Int)) := d 5 (by decide)
        have d6 : v3.cell? ⟨b2, off + 6 * 2, none⟩ = some (.int .u64 (mf : Int)) := d 6 (by decide)
        have d7 : v3.cell? ⟨b2, off + 7 * 2, none⟩ = some (.int .u64 (mt : Int)) := d 7 (by decide)
        have d8 : v3.cell? ⟨b2, off + 8 * 2, none⟩ = some (.int .u64 (me : Int)) := d 8 (by decide)
        have d9 : v3.cell? ⟨b2, off + 18 + 1, none⟩ = some (.string mc) := (hb3.cell (p := ⟨b2, off + 18 + 1, none⟩) hb2).trans (hcells 9 (Nat.lt_succ_self 9)).2
        have HB3 := Lib.hid (hb12.trans (hb3.mono hb12.size))
        generalize hcc : v2.heap.size = c at *
        have hb2c : b2 < v3.heap.size := by omega
        have HB2 := Lib.hid hB2
        clear hb12 c_hb12 f_hb12 z0_hb12 hB2 hv3 hcells hcc hb3 d
        go_cut [9] (fun v9 wx => ∃ g, v9 = .pointer (some ⟨g, 0, none⟩) ∧ NewN v3 g ⟨k, m, tx, ep, v, mk, mf, mt, me, mc⟩ wx)
        case first =>
          go_wp2_with fail
          refine start_ (n := 29) (S := fun w' => Below v3.heap.size v3 w' ∧ w'.cell? ⟨c, 0, none⟩ = some (.slice (some ⟨b2, off, none⟩) 10 c2) ∧ w'.cell? ⟨b2, off + 18 + 1, none⟩ = some (.string mc)) (ds := [28]) #[false, false, false, false, false, false, false, false, false, false, false, false, false, false, false, false, false, false, false, false, false, false, false, false, false, false, false, false, false] (by kernel_rfl) rfl rfl ⟨(Below.refl v3.heap.size v3).drew, hcb, d9⟩ (fun hHeld => ?_)
          refine pure_ (i := 0) (N := some 34) (v := ?_) (a' := ?_) #[true, false, false, false, false, false, false, false, false, false, false, false, false, false, false, false, false, false, false, false, false, false, false, false, false, false, false, false, false] rfl rfl (by kernel_rfl) (fun _ _ _ h => h) (Or.inl ⟨by rfl, ?_⟩) ?_ ?_
          rotate_left
          · intro w'
            go_simp
            with_reducible rfl
          rotate_left
          · simp only [Act.put, List.setIfInBounds_toArray, List.set_cons_zero, List.set_cons_succ, i64_w, i32_w]
            rfl
          refine pure_ (i := 2) (N := some 36) (v := ?_) (a' := ?_) #[true, false, true, false, false, false, false, false, false, false, false, false, false, false, false, false, false, false, false, false, false, false, false, false, false, false, false, false, false] rfl rfl (by kernel_rfl) (fun _ _ _ h => h) (Or.inl ⟨by rfl, ?_⟩) ?_ ?_
          rotate_left
          · intro w'
            go_simp
            with_reducible rfl
          rotate_left
          · simp only [Act.put, List.setIfInBounds_toArray, List.set_cons_zero, List.set_cons_succ, i64_w, i32_w]
            rfl
          refine pure_ (i := 5) (N := some 39) (v := ?_) (a' := ?_) #[true, false, true, false, false, true, false, false, false, false, false, false, false, false, false, false, false, false, false, false, false, false, false, false, false, false, false, false, false] rfl rfl (by kernel_rfl) (fun _ _ _ h => h) (Or.inl ⟨by rfl, ?_⟩) ?_ ?_
          rotate_left
          · intro w'
            go_simp
            with_reducible rfl
          rotate_left
          · simp only [Act.put, List.setIfInBounds_toArray, List.set_cons_zero, List.set_cons_succ, i64_w, i32_w]
            rfl
          refine pure_ (i := 7) (N := some 41) (v := ?_) (a' := ?_) #[true, false, true, false, false, true, false, true, false, false, false, false, false, false, false, false, false, false, false, false, false, false, false, false, false, false, false, false, false] rfl rfl (by kernel_rfl) (fun _ _ _ h => h) (Or.inl ⟨by rfl, ?_⟩) ?_ ?_
          rotate_left
          · intro w'
            go_simp
            with_reducible rfl
          rotate_left
          · simp only [Act.put, List.setIfInBounds_toArray, List.set_cons_zero, List.set_cons_succ, i64_w, i32_w]
            rfl
          refine pure_ (i := 9) (N := some 43) (v := ?_) (a' := ?_) #[true, false, true, false, false, true, false, true, false, true, false, false, false, false, false, false, false, false, false, false, false, false, false, false, false, false, false, false, false] rfl rfl (by kernel_rfl) (fun _ _ _ h => h) (Or.inl ⟨by rfl, ?_⟩) ?_ ?_
          rotate_left
          · intro w'
            go_simp
            with_reducible rfl
          rotate_left
          · simp only [Act.put, List.setIfInBounds_toArray, List.set_cons_zero, List.set_cons_succ, i64_w, i32_w]
            rfl
          refine pure_ (i := 11) (N := some 45) (v := ?_) (a' := ?_) #[true, false, true, false, false, true, false, true, false, true, false, true, false, false, false, false, false, false, false, false, false, false, false, false, false, false, false, false, false] rfl rfl (by kernel_rfl) (fun _ _ _ h => h) (Or.inl ⟨by rfl, ?_⟩) ?_ ?_
          rotate_left
          · intro w'
            go_simp
            with_reducible rfl
          rotate_left
          · simp only [Act.put, List.setIfInBounds_toArray, List.set_cons_zero, List.set_cons_succ, i64_w, i32_w]
            rfl
          refine pure_ (i := 13) (N := some 47) (v := ?_) (a' := ?_) #[true, false, true, false, false, true, false, true, false, true, false, true, false, true, false, false, false, false, false, false, false, false, false, false, false, false, false, false, false] rfl rfl (by kernel_rfl) (fun _ _ _ h => h) (Or.inl ⟨by rfl, ?_⟩) ?_ ?_
          rotate_left
          · intro w'
            go_simp
            with_reducible rfl
          rotate_left
          · simp only [Act.put, List.setIfInBounds_toArray, List.set_cons_zero, List.set_cons_succ, i64_w, i32_w]
            rfl
          refine pure_ (i := 16) (N := some 50) (v := ?_) (a' := ?_) #[true, false, true, false, false, true, false, true, false, true, false, true, false, true, false, false, true, false, false, false, false, false, false, false, false, false, false, false, false] rfl rfl (by kernel_rfl) (fun _ _ _ h => h) (Or.inl ⟨by rfl, ?_⟩) ?_ ?_
          rotate_left
          · intro w'
            go_simp
            with_reducible rfl
          rotate_left
          · simp only [Act.put, List.setIfInBounds_toArray, List.set_cons_zero, List.set_cons_succ, i64_w, i32_w]
            rfl
          refine pure_ (i := 19) (N := some 53) (v := ?_) (a' := ?_) #[true, false, true, false, false, true, false, true, false, true, false, true, false, true, false, false, true, false, false, true, false, false, false, false, false, false, false, false, false] rfl rfl (by kernel_rfl) (fun _ _ _ h => h) (Or.inl ⟨by rfl, ?_⟩) ?_ ?_
          rotate_left
          · intro w'
            go_simp
            with_reducible rfl
          rotate_left
          · simp only [Act.put, List.setIfInBounds_toArray, List.set_cons_zero, List.set_cons_succ, i64_w, i32_w]
            rfl
          refine Takeq.takeq_ (i := 1) (N := some 35) (v := (.int .i64 (k : Int))) (a' := ?_) #[true, true, true, false, false, true, false, true, false, true, false, true, false, true, false, false, true, false, false, true, false, false, false, false, false, false, false, false, false] 25 #[.int .i64 0, .pointer (some ⟨c, 0, none⟩)] rfl rfl (by kernel_rfl) (fun _ _ _ h => h) (by rfl) (Takeq.enter_val Tryd.func25 (by kernel_rfl) rfl #[.int .i64 0, .pointer (some ⟨c, 0, none⟩)] rfl rfl (by simp only [List.map_toArray, List.map_cons, List.map_nil]; rfl)) (fun w' hS => ?_) hHeld ?_ ?_
          · exact num_at c b2 off c2 10 0 0 k w' rfl hS.2.1 (by decide) ((hS.1.cell (p := ⟨b2, off + 0 * 2, none⟩) hb2c).trans d0) (by omega)
          rotate_left
          · simp only [Act.put, List.setIfInBounds_toArray, List.set_cons_zero, List.set_cons_succ, i64_w, i32_w]
            rfl
          refine Takeq.takeq_ (i := 3) (N := some 37) (v := (.int .i64 (m : Int))) (a' := ?_) #[true, true, true, true, false, true, false, true, false, true, false, true, false, true, false, false, true, false, false, true, false, false, false, false, false, false, false, false, false] 25 #[.int .i64 1, .pointer (some ⟨c, 0, none⟩)] rfl rfl (by kernel_rfl) (fun _ _ _ h => h) (by rfl) (Takeq.enter_val Tryd.func25 (by kernel_rfl) rfl #[.int .i64 1, .pointer (some ⟨c, 0, none⟩)] rfl rfl (by simp only [List.map_toArray, List.map_cons, List.map_nil]; rfl)) (fun w' hS => ?_) hHeld ?_ ?_
          · exact num_at c b2 off c2 10 1 1 m w' rfl hS.2.1 (by decide) ((hS.1.cell (p := ⟨b2, off + 1 * 2, none⟩) hb2c).trans d1) (by omega)
          rotate_left
          · simp only [Act.put, List.setIfInBounds_toArray, List.set_cons_zero, List.set_cons_succ, i64_w, i32_w]
            rfl
          refine pure_ (i := 4) (N := some 38) (v := ?_) (a' := ?_) #[true, true, true, true, true, true, false, true, false, true, false, true, false, true, false, false, true, false, false, true, false, false, false, false, false, false, false, false, false] rfl rfl (by kernel_rfl) (fun _ _ _ h => h) (Or.inl ⟨by rfl, ?_⟩) ?_ ?_
          rotate_left
          · intro w'
            go_simp
            with_reducible rfl
          rotate_left
          · simp only [Act.put, List.setIfInBounds_toArray, List.set_cons_zero, List.set_cons_succ, i64_w, i32_w]
            rfl
          refine Takeq.takeq_ (i := 6) (N := some 40) (v := (.int .i64 (tx : Int))) (a' := ?_) #[true, true, true, true, true, true, true, true, false, true, false, true, false, true, false, false, true, false, false, true, false, false, false, false, false, false, false, false, false] 25 #[.int .i64 2, .pointer (some ⟨c, 0, none⟩)] rfl rfl (by kernel_rfl) (fun _ _ _ h => h) (by rfl) (Takeq.enter_val Tryd.func25 (by kernel_rfl) rfl #[.int .i64 2, .pointer (some ⟨c, 0, none⟩)] rfl rfl (by simp only [List.map_toArray, List.map_cons, List.map_nil]; rfl)) (fun w' hS => ?_) hHeld ?_ ?_
          · exact num_at c b2 off c2 10 2 2 tx w' rfl hS.2.1 (by decide) ((hS.1.cell (p := ⟨b2, off + 2 * 2, none⟩) hb2c).trans d2) (by omega)
          rotate_left
          · simp only [Act.put, List.setIfInBounds_toArray, List.set_cons_zero, List.set_cons_succ, i64_w, i32_w]
            rfl
          refine Takeq.takeq_ (i := 8) (N := some 42) (v := (.int .i64 (ep : Int))) (a' := ?_) #[true, true, true, true, true, true, true, true, true, true, false, true, false, true, false, false, true, false, false, true, false, false, false, false, false, false, false, false, false] 25 #[.int .i64 3, .pointer (some ⟨c, 0, none⟩)] rfl rfl (by kernel_rfl) (fun _ _ _ h => h) (by rfl) (Takeq.enter_val Tryd.func25 (by kernel_rfl) rfl #[.int .i64 3, .pointer (some ⟨c, 0, none⟩)] rfl rfl (by simp only [List.map_toArray, List.map_cons, List.map_nil]; rfl)) (fun w' hS => ?_) hHeld ?_ ?_
          · exact num_at c b2 off c2 10 3 3 ep w' rfl hS.2.1 (by decide) ((hS.1.cell (p := ⟨b2, off + 3 * 2, none⟩) hb2c).trans d3) (by omega)
          rotate_left
          · simp only [Act.put, List.setIfInBounds_toArray, List.set_cons_zero, List.set_cons_succ, i64_w, i32_w]
            rfl
          refine Takeq.takeq_ (i := 10) (N := some 44) (v := (.int .i64 (v : Int))) (a' := ?_) #[true, true, true, true, true, true, true, true, true, true, true, true, false, true, false, false, true, false, false, true, false, false, false, false, false, false, false, false, false] 25 #[.int .i64 4, .pointer (some ⟨c, 0, none⟩)] rfl rfl (by kernel_rfl) (fun _ _ _ h => h) (by rfl) (Takeq.enter_val Tryd.func25 (by kernel_rfl) rfl #[.int .i64 4, .pointer (some ⟨c, 0, none⟩)] rfl rfl (by simp only [List.map_toArray, List.map_cons, List.map_nil]; rfl)) (fun w' hS => ?_) hHeld ?_ ?_
          · exact num_at c b2 off c2 10 4 4 v w' rfl hS.2.1 (by decide) ((hS.1.cell (p := ⟨b2, off + 4 * 2, none⟩) hb2c).trans d4) (by omega)
          rotate_left
          · simp only [Act.put, List.setIfInBounds_toArray, List.set_cons_zero, List.set_cons_succ, i64_w, i32_w]
            rfl
          refine Takeq.takeq_ (i := 12) (N := some 46) (v := (.int .i64 (mk : Int))) (a' := ?_) #[true, true, true, true, true, true, true, true, true, true, true, true, true, true, false, false, true, false, false, true, false, false, false, false, false, false, false, false, false] 25 #[.int .i64 5, .pointer (some ⟨c, 0, none⟩)] rfl rfl (by kernel_rfl) (fun _ _ _ h => h) (by rfl) (Takeq.enter_val Tryd.func25 (by kernel_rfl) rfl #[.int .i64 5, .pointer (some ⟨c, 0, none⟩)] rfl rfl (by simp only [List.map_toArray, List.map_cons, List.map_nil]; rfl)) (fun w' hS => ?_) hHeld ?_ ?_
          · exact num_at c b2 off c2 10 5 5 mk w' rfl hS.2.1 (by decide) ((hS.1.cell (p := ⟨b2, off + 5 * 2, none⟩) hb2c).trans d5) (by omega)
          rotate_left
          · simp only [Act.put, List.setIfInBounds_toArray, List.set_cons_zero, List.set_cons_succ, i64_w, i32_w]
            rfl
          refine Takeq.takeq_ (i := 14) (N := some 48) (v := (.int .i64 (mf : Int))) (a' := ?_) #[true, true, true, true, true, true, true, true, true, true, true, true, true, true, true, false, true, false, false, true, false, false, false, false, false, false, false, false, false] 25 #[.int .i64 6, .pointer (some ⟨c, 0, none⟩)] rfl rfl (by kernel_rfl) (fun _ _ _ h => h) (by rfl) (Takeq.enter_val Tryd.func25 (by kernel_rfl) rfl #[.int .i64 6, .pointer (some ⟨c, 0, none⟩)] rfl rfl (by simp only [List.map_toArray, List.map_cons, List.map_nil]; rfl)) (fun w' hS => ?_) hHeld ?_ ?_
          · exact num_at c b2 off c2 10 6 6 mf w' rfl hS.2.1 (by decide) ((hS.1.cell (p := ⟨b2, off + 6 * 2, none⟩) hb2c).trans d6) (by omega)
          rotate_left
          · simp only [Act.put, List.setIfInBounds_toArray, List.set_cons_zero, List.set_cons_succ, i64_w, i32_w]
            rfl
          refine pure_ (i := 15) (N := some 49) (v := ?_) (a' := ?_) #[true, true, true, true, true, true, true, true, true, true, true, true, true, true, true, true, true, false, false, true, false, false, false, false, false, false, false, false, false] rfl rfl (by kernel_rfl) (fun _ _ _ h => h) (Or.inl ⟨by rfl, ?_⟩) ?_ ?_
          rotate_left
          · intro w'
            go_simp
            with_reducible rfl
          rotate_left
          · simp only [Act.put, List.setIfInBounds_toArray, List.set_cons_zero, List.set_cons_succ, i64_w, i32_w]
            rfl
          refine Takeq.takeq_ (i := 17) (N := some 51) (v := (.int .i64 (mt : Int))) (a' := ?_) #[true, true, true, true, true, true, true, true, true, true, true, true, true, true, true, true, true, true, false, true, false, false, false, false, false, false, false, false, false] 25 #[.int .i64 7, .pointer (some ⟨c, 0, none⟩)] rfl rfl (by kernel_rfl) (fun _ _ _ h => h) (by rfl) (Takeq.enter_val Tryd.func25 (by kernel_rfl) rfl #[.int .i64 7, .pointer (some ⟨c, 0, none⟩)] rfl rfl (by simp only [List.map_toArray, List.map_cons, List.map_nil]; rfl)) (fun w' hS => ?_) hHeld ?_ ?_
          · exact num_at c b2 off c2 10 7 7 mt w' rfl hS.2.1 (by decide) ((hS.1.cell (p := ⟨b2, off + 7 * 2, none⟩) hb2c).trans d7) (by omega)
          rotate_left
          · simp only [Act.put, List.setIfInBounds_toArray, List.set_cons_zero, List.set_cons_succ, i64_w, i32_w]
            rfl
          refine pure_ (i := 18) (N := some 52) (v := ?_) (a' := ?_) #[true, true, true, true, true, true, true, true, true, true, true, true, true, true, true, true, true, true, true, true, false, false, false, false, false, false, false, false, false] rfl rfl (by kernel_rfl) (fun _ _ _ h => h) (Or.inl ⟨by rfl, ?_⟩) ?_ ?_
          rotate_left
          · intro w'
            go_simp
            with_reducible rfl
          rotate_left
          · simp only [Act.put, List.setIfInBounds_toArray, List.set_cons_zero, List.set_cons_succ, i64_w, i32_w]
            rfl
          refine Takeq.takeq_ (i := 20) (N := some 54) (v := (.int .i64 (me : Int))) (a' := ?_) #[true, true, true, true, true, true, true, true, true, true, true, true, true, true, true, true, true, true, true, true, true, false, false, false, false, false, false, false, false] 25 #[.int .i64 8, .pointer (some ⟨c, 0, none⟩)] rfl rfl (by kernel_rfl) (fun _ _ _ h => h) (by rfl) (Takeq.enter_val Tryd.func25 (by kernel_rfl) rfl #[.int .i64 8, .pointer (some ⟨c, 0, none⟩)] rfl rfl (by simp only [List.map_toArray, List.map_cons, List.map_nil]; rfl)) (fun w' hS => ?_) hHeld ?_ ?_
          · exact num_at c b2 off c2 10 8 8 me w' rfl hS.2.1 (by decide) ((hS.1.cell (p := ⟨b2, off + 8 * 2, none⟩) hb2c).trans d8) (by omega)
          rotate_left
          · simp only [Act.put, List.setIfInBounds_toArray, List.set_cons_zero, List.set_cons_succ, i64_w, i32_w]
            rfl
          refine take_ (i := 21) (N := some 55) (v := ?_) (a' := ?_) #[true, true, true, true, true, true, true, true, true, true, true, true, true, true, true, true, true, true, true, true, true, true, false, false, false, false, false, false, false] rfl rfl (by kernel_rfl) (fun _ _ _ h => h) (Or.inl ⟨by rfl, ?_⟩) hHeld ?_ ?_
          rotate_left
          · rintro w' ⟨s0, s1, s2⟩
            go_simp
            with_reducible rfl
          rotate_left
          · simp only [Act.put, List.setIfInBounds_toArray, List.set_cons_zero, List.set_cons_succ, i64_w, i32_w]
            rfl
          refine pure_ (i := 22) (N := some 56) (v := ?_) (a' := ?_) #[true, true, true, true, true, true, true, true, true, true, true, true, true, true, true, true, true, true, true, true, true, true, true, false, false, false, false, false, false] rfl rfl (by kernel_rfl) (fun _ _ _ h => h) (Or.inl ⟨by rfl, ?_⟩) ?_ ?_
          rotate_left
          · intro w'
            go_simp
            with_reducible rfl
          rotate_left
          · simp only [Act.put, List.setIfInBounds_toArray, List.set_cons_zero, List.set_cons_succ, i64_w, i32_w]
            rfl
          refine pure_ (i := 23) (N := some 57) (v := ?_) (a' := ?_) #[true, true, true, true, true, true, true, true, true, true, true, true, true, true, true, true, true, true, true, true, true, true, true, true, false, false, false, false, false] rfl rfl (by kernel_rfl) (fun _ _ _ h => h) (Or.inl ⟨by rfl, ?_⟩) ?_ ?_
          rotate_left
          · intro w'
            go_simp
            with_reducible rfl
          rotate_left
          · simp only [Act.put, List.setIfInBounds_toArray, List.set_cons_zero, List.set_cons_succ, i64_w, i32_w]
            rfl
          refine take_ (i := 24) (N := some 58) (v := ?_) (a' := ?_) #[true, true, true, true, true, true, true, true, true, true, true, true, true, true, true, true, true, true, true, true, true, true, true, true, true, false, false, false, false] rfl rfl (by kernel_rfl) (fun _ _ _ h => h) (Or.inl ⟨by rfl, ?_⟩) hHeld ?_ ?_
          rotate_left
          · rintro w' ⟨s0, s1, s2⟩
            go_simp
            with_reducible rfl
          rotate_left
          · simp only [Act.put, List.setIfInBounds_toArray, List.set_cons_zero, List.set_cons_succ, i64_w, i32_w]
            rfl
          refine pure_ (i := 25) (N := some 59) (v := ?_) (a' := ?_) #[true, true, true, true, true, true, true, true, true, true, true, true, true, true, true, true, true, true, true, true, true, true, true, true, true, true, false, false, false] rfl rfl (by kernel_rfl) (fun _ _ _ h => h) (Or.inl ⟨by rfl, ?_⟩) ?_ ?_
          rotate_left
          · intro w'
            go_simp
            with_reducible rfl
          rotate_left
          · simp only [Act.put, List.setIfInBounds_toArray, List.set_cons_zero, List.set_cons_succ, i64_w, i32_w]
            rfl
          refine pure_ (i := 26) (N := some 60) (v := ?_) (a' := ?_) #[true, true, true, true, true, true, true, true, true, true, true, true, true, true, true, true, true, true, true, true, true, true, true, true, true, true, true, false, false] rfl rfl (by kernel_rfl) (fun _ _ _ h => h) (Or.inl ⟨by rfl, ?_⟩) ?_ ?_
          rotate_left
          · intro w'
            go_simp
            with_reducible rfl
          rotate_left
          · simp only [Act.put, List.setIfInBounds_toArray, List.set_cons_zero, List.set_cons_succ, i64_w, i32_w]
            rfl
          refine one_ (i := 27) (N := some 9) #[true, true, true, true, true, true, true, true, true, true, true, true, true, true, true, true, true, true, true, true, true, true, true, true, true, true, true, true, false] rfl rfl (by kernel_rfl) (by decide) (fun K hK => ?_)
          refine value_ (w1 := ?_) (v := ?_) (by rfl) rfl ?_ ?_
          rotate_left 2
          · go_simp
            constructor
            · rfl
            · rfl
          refine hK.out _ _ ⟨(bw_alloc hHeld.1), ((bw_alloc hHeld.1).cell (p := ⟨c, 0, none⟩) hz3).trans hcb, ((bw_alloc hHeld.1).cell (p := ⟨b2, off + 18 + 1, none⟩) hb2c).trans d9⟩ (fun hHeld => ?_)
          clear hK K
          refine norm_ (a' := ?_) ?_ ?_
          rotate_left
          · show Act.put _ (some 9) _ = _
            simp only [Act.put, List.setIfInBounds_toArray, List.set_cons_zero, List.set_cons_succ, i64_w, i32_w]
            rfl
          refine last_ (i := 28) (N := none) #[true, true, true, true, true, true, true, true, true, true, true, true, true, true, true, true, true, true, true, true, true, true, true, true, true, true, true, true, true] rfl rfl (by kernel_rfl) (by decide) (fun K hK => ?_)
          refine skip_ (w1 := ?_) (by rfl) rfl ?_ ?_
          rotate_left
          · go_simp
            rfl
          refine hK.out _ _ ?_
          clear hK K
          refine done_ (by kernel_rfl) ?_

          go_wp2_with fail
          go_meet
          refine ⟨v3.heap.size, rfl, Nat.le_refl _, by simp, ?_, ((Below.refl _ v3).alloc (Nat.le_refl _) _).drew⟩
          rw [u8_wrap m g2, u8_wrap mf g7, u8_wrap mt g8]
          simp [go_sem]
        case rest =>
          obtain ⟨wi, h_wi⟩ : ∃ v : World, v = wc := ⟨_, rfl⟩; subst h_wi
          obtain ⟨g, rfl, hg1, hg2, ⟨n0, n1, n2, n3, n4, n5, n6, n7, n8, n9⟩, hBx⟩ := hcut
          have hbw := HB3.out.trans (hBx.mono HB3.out.size)
          have hR : ndecR l = if rightB k m tx ep v mk mf mt me mc = false then (bad, 4) else (⟨k, m, tx, ep, v, mk, mf, mt, me, mc⟩, 0) := HNDH.out
          clear HB3 hBx d0 d1 d2 d3 d4 d5 d6 d7 d8 d9 hcb hz3 hb2c hb2 hg1 HNDH
          dsimp only at n0 n1 n2 n3 n4 n5 n6 n7 n8 n9
          have HRR := Lib.hid hR
          clear hR
          go_wp2_with fail
          refine (right_any _ _ _ _ _ _ _ _ _ _ _).mono ?_
          rintro r v4 ⟨rfl, hb4⟩
          have hb := hbw.trans (hb4.mono hbw.size)
          clear hbw
          cases hr : rightB k m tx ep v mk mf mt me mc with
          | false =>
            have HR := Lib.hid (HRR.out.trans (if_pos hr))
            clear HRR hr hb4 n0 n1 n2 n3 n4 n5 n6 n7 n8 n9
            obtain ⟨c_hb, f_hb, z_hb⟩ := bcell hb; have z0_hb := z_hb (w.heap.size) (by first | omega | (simp only [World.size_alloc, World.size_setCell, World.size_drew, World.heap_drewN] <;> omega)); clear z_hb
            go_wp2_with fail
            simp [bodyPost, results, Tryd.results12, go_sem, *]
            exact nd_bad HR.out (by repeat (first | (with_reducible exact Below.refl _ _) | (with_reducible assumption) | (with_reducible refine bw_alloc ?_) | (with_reducible refine bw_drew ?_) | (with_reducible refine bw_drewN ?_) | (with_reducible refine bw_set ?_ (by first | (simp; done) | (dsimp only; omega))) | (with_reducible refine bw_via (by assumption) ?_)))
          | true =>
            have HR := Lib.hid (HRR.out.trans (if_neg (by simp [hr])))
            have n0 := (hb4.cell (p := ⟨g, 0, none⟩) hg2).trans n0
            have n1 := (hb4.cell (p := ⟨g, 1, none⟩) hg2).trans n1
            have n2 := (hb4.cell (p := ⟨g, 2, none⟩) hg2).trans n2
            have n3 := (hb4.cell (p := ⟨g, 3, none⟩) hg2).trans n3
            have n4 := (hb4.cell (p := ⟨g, 4, none⟩) hg2).trans n4
            have n5 := (hb4.cell (p := ⟨g, 5, none⟩) hg2).trans n5
            have n6 := (hb4.cell (p := ⟨g, 6, none⟩) hg2).trans n6
            have n7 := (hb4.cell (p := ⟨g, 7, none⟩) hg2).trans n7
            have n8 := (hb4.cell (p := ⟨g, 8, none⟩) hg2).trans n8
            have n9 := (hb4.cell (p := ⟨g, 9, none⟩) hg2).trans n9
            clear HRR hr hb4 hg2
            obtain ⟨c_hb, f_hb, z_hb⟩ := bcell hb; have z0_hb := z_hb (w.heap.size) (by first | omega | (simp only [World.size_alloc, World.size_setCell, World.size_drew, World.heap_drewN] <;> omega)); clear z_hb
            go_wp2_with fail
            simp [bodyPost, results, Tryd.results12, go_sem, *]
            rw [HR.out]
            exact ⟨rfl, by repeat (first | (with_reducible exact Below.refl _ _) | (with_reducible assumption) | (with_reducible refine bw_alloc ?_) | (with_reducible refine bw_drew ?_) | (with_reducible refine bw_drewN ?_) | (with_reducible refine bw_set ?_ (by first | (simp; done) | (dsimp only; omega))) | (with_reducible refine bw_via (by assumption) ?_))⟩
      · have hne : (n == 0) = false := by simp [hn]
        have hne2 : (n != 0) = true := by simp [hn]
        have hN2 : ndecR l = (bad, 4) := by
          rw [HNDH.out]
          unfold ndecV
          split
          · rename_i e
            simp at e
            exact absurd e.2 hn
          · rfl
        have HN2 := Lib.hid hN2
        clear hN2 hn hD
        go_wp2_with fail
        simp [bodyPost, results, Tryd.results12, go_sem, *]
        exact nd_bad HN2.out (by repeat (first | (with_reducible exact Below.refl _ _) | (with_reducible assumption) | (with_reducible refine bw_alloc ?_) | (with_reducible refine bw_drew ?_) | (with_reducible refine bw_drewN ?_) | (with_reducible refine bw_set ?_ (by first | (simp; done) | (dsimp only; omega))) | (with_reducible refine bw_via (by assumption) ?_)))
    · rw [if_pos (.inr hkl)] at HND
      have hlt : kk < (l.length : Int) := by omega
      have hdl : decide (kk < (l.length : Int)) = true := by simpa using hlt
      have HF2 := Lib.hid HF
      clear HF HFS hkl hk
      have HNDH := Lib.hid HND
      clear HND
      go_enter Tryd.func12, Tryd.ntmps12
      go_wp2_with fail
      refine (HF2.out _ (by repeat (first | (with_reducible exact Below.refl _ _) | (with_reducible assumption) | (with_reducible refine bw_alloc ?_) | (with_reducible refine bw_drew ?_) | (with_reducible refine bw_drewN ?_) | (with_reducible refine bw_set ?_ (by first | (simp; done) | (dsimp only; omega))) | (with_reducible refine bw_via (by assumption) ?_)))).mono ?_
      rintro r v1 ⟨a1, c1, rfl, h1, h2, h3, hb1⟩
      obtain ⟨c_hb1, f_hb1, z_hb1⟩ := bcell hb1; have z0_hb1 := z_hb1 (w.heap.size) (by first | omega | (simp only [World.size_alloc, World.size_setCell, World.size_drew, World.heap_drewN] <;> omega)); clear z_hb1
      go_wp2_with fail
      simp [bodyPost, results, Tryd.results12, go_sem, *]
      exact nd_bad HNDH.out (by repeat (first | (with_reducible exact Below.refl _ _) | (with_reducible assumption) | (with_reducible refine bw_alloc ?_) | (with_reducible refine bw_drew ?_) | (with_reducible refine bw_drewN ?_) | (with_reducible refine bw_set ?_ (by first | (simp; done) | (dsimp only; omega))) | (with_reducible refine bw_via (by assumption) ?_)))
  · rw [if_pos (.inl he)] at HND
    have hne : (er == 0) = false := by simp [he]
    have hne2 : (er != 0) = true := by simp [he]
    have HF2 := Lib.hid HF
    have HNDH := Lib.hid HND
    clear HF HFS HND he
    go_enter Tryd.func12, Tryd.ntmps12
    go_wp2_with fail
    refine (HF2.out _ (by repeat (first | (with_reducible exact Below.refl _ _) | (with_reducible assumption) | (with_reducible refine bw_alloc ?_) | (with_reducible refine bw_drew ?_) | (with_reducible refine bw_drewN ?_) | (with_reducible refine bw_set ?_ (by first | (simp; done) | (dsimp only; omega))) | (with_reducible refine bw_via (by assumption) ?_)))).mono ?_
    rintro r v1 ⟨a1, c1, rfl, h1, h2, h3, hb1⟩
    obtain ⟨c_hb1, f_hb1, z_hb1⟩ := bcell hb1; have z0_hb1 := z_hb1 (w.heap.size) (by first | omega | (simp only [World.size_alloc, World.size_setCell, World.size_drew, World.heap_drewN] <;> omega)); clear z_hb1
    go_wp2_with fail
    simp [bodyPost, results, Tryd.results12, go_sem, *]
    exact nd_bad HNDH.out (by repeat (first | (with_reducible exact Below.refl _ _) | (with_reducible assumption) | (with_reducible refine bw_alloc ?_) | (with_reducible refine bw_drew ?_) | (with_reducible refine bw_drewN ?_) | (with_reducible refine bw_set ?_ (by first | (simp; done) | (dsimp only; omega))) | (with_reducible refine bw_via (by assumption) ?_)))
end Go.Proofs.YtbkkomknajgpdaaDoor.NoteCode
