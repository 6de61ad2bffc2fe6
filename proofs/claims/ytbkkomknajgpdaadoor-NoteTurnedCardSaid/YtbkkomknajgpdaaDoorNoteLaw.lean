/- A note's bytes, and the note of bytes: the plain laws. -/
import Derived.Test.YtbkkomknajgpdaaDoorNoteNum
import Derived.Test.YtbkkomknajgpdaaDoorFrameLaw
namespace Go.Proofs.YtbkkomknajgpdaaDoor.NoteNum
open Go.RowKit CodeSpec SumSpec NoteSpec Flat CodeMem SumMem
set_option linter.unusedSimpArgs false
set_option linter.unusedVariables false
set_option maxRecDepth 100000

theorem note_bounds {k m tx ep v mk mf mt me : Int} {mc : ByteArray} (h : rightB k m tx ep v mk mf mt me mc = true) :
    0 ≤ k ∧ k ≤ 5 ∧ m ≤ 7 ∧ 0 ≤ tx ∧ tx ≤ 999 ∧ 0 ≤ ep ∧ ep ≤ 1048576 ∧ 0 ≤ v ∧ v ≤ 2 ∧ 0 ≤ mk ∧ mk ≤ 4 ∧ mf ≤ 7 ∧ mt ≤ 7 ∧ 0 ≤ me ∧ me ≤ 1048576 ∧ mc.size ≤ 500 := by
  have hz : mc.toList = [] → mc.size = 0 := fun e => by
    rw [ByteArray.toList_eq] at e
    have := congrArg List.length e
    rw [size_toList] at this
    exact this
  unfold rightB epochB handed noMsg epochB at h
  simp only [Bool.and_eq_true, decide_eq_true_eq] at h
  obtain ⟨⟨⟨h1, h2⟩, h3⟩, h4⟩ := h
  split at h4
  · simp at h4; omega
  · simp only [Bool.and_eq_true, beq_iff_eq] at h4
    obtain ⟨⟨⟨⟨⟨a1, a2⟩, a3⟩, a4⟩, a5⟩, h5⟩ := h4
    have a6 := hz (by simpa using a5)
    split at h5
    · simp at h5; omega
    · split at h5
      · simp at h5; omega
      · split at h5
        · simp at h5; omega
        · split at h5
          · simp at h5; omega
          · cases h5

/-- A note's bytes, and an error. -/
def nencR (k m tx ep v mk mf mt me : Int) (mc : ByteArray) : List UInt8 × Int :=
  if rightB k m tx ep v mk mf mt me mc = false then ([], 2) else (frame (nbytes k.toNat m.toNat tx.toNat ep.toNat v.toNat mk.toNat mf.toNat mt.toNat me.toNat mc), 0)
/-- The note of bytes, and an error. -/
def bad : N := ⟨0, 0, 0, 0, 0, 0, 0, 0, 0, ⟨#[]⟩⟩
def ndecR (b : List UInt8) : N × Int :=
  if (firstS b).2.2 ≠ 0 ∨ (firstS b).2.1 ≠ (b.length : Int) then (bad, 4) else
  match dec nshape (firstS b).1 with
  | ([k, m, tx, ep, v, mk, mf, mt, me, c], 0) => if rightB k.n m.n tx.n ep.n v.n mk.n mf.n mt.n me.n c.s = false then (bad, 4) else (⟨k.n, m.n, tx.n, ep.n, v.n, mk.n, mf.n, mt.n, me.n, c.s⟩, 0)
  | _ => (bad, 4)
theorem nbytes_length {k m tx ep v mk mf mt me : Nat} {mc : ByteArray} : (nbytes k m tx ep v mk mf mt me mc).length = 18 + mc.size := by
  have hz : mc.data.toList.length = mc.size := size_toList mc
  unfold nbytes
  simp only [List.length_append, length_be, hz]
  omega
theorem ndec_nenc {k m tx ep v mk mf mt me : Int} {mc : ByteArray} {o : List UInt8} (h1 : 0 ≤ m) (h2 : 0 ≤ mf) (h3 : 0 ≤ mt) (h : nencR k m tx ep v mk mf mt me mc = (o, 0)) : ndecR o = (⟨k, m, tx, ep, v, mk, mf, mt, me, mc⟩, 0) := by
  unfold nencR at h
  split at h
  · cases h
  · rename_i hr
    have hr2 : rightB k m tx ep v mk mf mt me mc = true := by simpa using hr
    obtain ⟨b1, b2, b3, b4, b5, b6, b7, b8, b9, b10, b11, b12, b13, b14, b15, b16⟩ := note_bounds hr2
    have ho : o = frame (nbytes k.toNat m.toNat tx.toNat ep.toNat v.toNat mk.toNat mf.toNat mt.toNat me.toNat mc) := (congrArg Prod.fst h).symm
    have hE := nenc (k := k.toNat) (m := m.toNat) (tx := tx.toNat) (ep := ep.toNat) (v := v.toNat) (mk := mk.toNat) (mf := mf.toNat) (mt := mt.toNat) (me := me.toNat) (mc := mc) (by omega) (by omega) (by omega) (by omega) (by omega) (by omega) (by omega) (by omega) (by omega) (by omega)
    have hl := nbytes_length (k := k.toNat) (m := m.toNat) (tx := tx.toNat) (ep := ep.toNat) (v := v.toNat) (mk := mk.toNat) (mf := mf.toNat) (mt := mt.toNat) (me := me.toNat) (mc := mc)
    have hF := first_frame (l := nbytes k.toNat m.toNat tx.toNat ep.toNat v.toNat mk.toNat mf.toNat mt.toNat me.toNat mc) (by omega)
    have hfl : ∀ l : List UInt8, (frame l).length = l.length + 7 := fun l => by rw [frame, List.length_append, body_length, length_be]
    unfold ndecR
    rw [ho, hF]
    rw [if_neg (by rw [hfl]; simp), dec_enc hE, nvals]
    simp only
    rw [Int.toNat_of_nonneg b1, Int.toNat_of_nonneg h1, Int.toNat_of_nonneg b4, Int.toNat_of_nonneg b6, Int.toNat_of_nonneg b8, Int.toNat_of_nonneg b10, Int.toNat_of_nonneg h2, Int.toNat_of_nonneg h3, Int.toNat_of_nonneg b14, hr2]
    rfl
theorem nenc_ndec {b : List UInt8} {x : N} (h : ndecR b = (x, 0)) : nencR x.k x.m x.tx x.ep x.v x.hk x.hf x.ht x.he x.hc = (b, 0) ∧ 0 ≤ x.m ∧ 0 ≤ x.hf ∧ 0 ≤ x.ht := by
  unfold ndecR at h
  split at h
  · cases h
  · rename_i hc
    split at h
    · rename_i k m tx ep v mk mf mt me c hd
      split at h
      · cases h
      · rename_i hr
        have hx : x = ⟨k.n, m.n, tx.n, ep.n, v.n, mk.n, mf.n, mt.n, me.n, c.s⟩ := (congrArg Prod.fst h).symm
        subst hx
        refine ⟨?_, by simp, by simp, by simp⟩
        have h0 : (firstS b).2.2 = 0 := by
          by_cases h2 : (firstS b).2.2 = 0
          · exact h2
          · exact absurd (.inl h2) hc
        have h1 : (firstS b).2.1 = (b.length : Int) := by
          by_cases h2 : (firstS b).2.1 = (b.length : Int)
          · exact h2
          · exact absurd (.inr h2) hc
        generalize hF : firstS b = T at *
        obtain ⟨y, kk, er⟩ := T
        dsimp only at h0 h1 hd
        subst h0 h1
        obtain ⟨hy, r, hb, hk⟩ := first_ok hF
        have hbl : (frame y ++ r).length = y.length + 7 + r.length := by rw [List.length_append, frame, List.length_append, body_length, length_be]
        have hr0 : r = [] := by
          have := congrArg List.length hb
          rw [hbl] at this
          have h3 : b.length = y.length + 7 := by omega
          exact List.eq_nil_of_length_eq_zero (by omega)
        subst hr0
        rw [List.append_nil] at hb
        obtain ⟨k', m', tx', ep', v', mk', mf', mt', me', mc', e, g1, g2, g3, g4, g5, g6, g7, g8, g9, g10⟩ := ndec hd
        have hE := nenc g1 g2 g3 g4 g5 g6 g7 g8 g9 g10
        rw [← e, enc_dec hd] at hE
        have hyb : y = nbytes k' m' tx' ep' v' mk' mf' mt' me' mc' := congrArg Prod.fst hE
        simp only [nvals, List.cons.injEq, and_true] at e
        obtain ⟨e1, e2, e3, e4, e5, e6, e7, e8, e9, e10⟩ := e
        subst e1 e2 e3 e4 e5 e6 e7 e8 e9 e10
        unfold nencR
        rw [if_neg hr, hb, hyb]
        rfl
    · cases h
end Go.Proofs.YtbkkomknajgpdaaDoor.NoteNum
