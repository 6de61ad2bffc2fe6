/- What the reference's Decode answers. -/
import Derived.Test.YtammpdifkpfafaaGreatDoorScriptRef
namespace Go.Proofs.YtammpdifkpfafaaGreatDoor.Script
open Go.RowKit Flat ByteMem ScriptSpec
set_option linter.unusedSimpArgs false
set_option linter.unusedVariables false
set_option maxRecDepth 100000

theorem told_any (what : Nat) (h : what < 15) (h0 : what ≠ 0) (l : List UInt8) (hl : (fds what).length ≤ l.length) (w : World) (a : Option Addr) (n cap : Nat) (hn : n = (fds what).length) (hc : n ≤ cap) (hm : cap ≤ maxLen) (hb : IsB w w.heap.size a l) :
    Calls Tryz.prog 24 #[.int .i64 (what : Int), .slice a n cap] w (ToldPost w (puts (start0 what) (fds what) l)) := by
  rcases what_cases h h0 with rfl | rfl | rfl | rfl | rfl | rfl | rfl | rfl | rfl | rfl | rfl | rfl | rfl | rfl
  · rcases l with _ | ⟨c0, l⟩
    · exact absurd hl (by simp [fds])
    rcases l with _ | ⟨c1, l⟩
    · exact absurd hl (by simp [fds])
    rcases l with _ | ⟨c2, l⟩
    · exact absurd hl (by simp [fds])
    rcases l with _ | ⟨c3, l⟩
    · exact absurd hl (by simp [fds])
    exact told_1 c0 c1 c2 c3 l w a n cap hn hc hm hb
  · rcases l with _ | ⟨c0, l⟩
    · exact absurd hl (by simp [fds])
    rcases l with _ | ⟨c1, l⟩
    · exact absurd hl (by simp [fds])
    rcases l with _ | ⟨c2, l⟩
    · exact absurd hl (by simp [fds])
    rcases l with _ | ⟨c3, l⟩
    · exact absurd hl (by simp [fds])
    rcases l with _ | ⟨c4, l⟩
    · exact absurd hl (by simp [fds])
    exact told_2 c0 c1 c2 c3 c4 l w a n cap hn hc hm hb
  · rcases l with _ | ⟨c0, l⟩
    · exact absurd hl (by simp [fds])
    rcases l with _ | ⟨c1, l⟩
    · exact absurd hl (by simp [fds])
    rcases l with _ | ⟨c2, l⟩
    · exact absurd hl (by simp [fds])
    exact told_3 c0 c1 c2 l w a n cap hn hc hm hb
  · rcases l with _ | ⟨c0, l⟩
    · exact absurd hl (by simp [fds])
    rcases l with _ | ⟨c1, l⟩
    · exact absurd hl (by simp [fds])
    exact told_4 c0 c1 l w a n cap hn hc hm hb
  · rcases l with _ | ⟨c0, l⟩
    · exact absurd hl (by simp [fds])
    rcases l with _ | ⟨c1, l⟩
    · exact absurd hl (by simp [fds])
    rcases l with _ | ⟨c2, l⟩
    · exact absurd hl (by simp [fds])
    exact told_5 c0 c1 c2 l w a n cap hn hc hm hb
  · rcases l with _ | ⟨c0, l⟩
    · exact absurd hl (by simp [fds])
    rcases l with _ | ⟨c1, l⟩
    · exact absurd hl (by simp [fds])
    exact told_6 c0 c1 l w a n cap hn hc hm hb
  · rcases l with _ | ⟨c0, l⟩
    · exact absurd hl (by simp [fds])
    rcases l with _ | ⟨c1, l⟩
    · exact absurd hl (by simp [fds])
    exact told_7 c0 c1 l w a n cap hn hc hm hb
  · rcases l with _ | ⟨c0, l⟩
    · exact absurd hl (by simp [fds])
    rcases l with _ | ⟨c1, l⟩
    · exact absurd hl (by simp [fds])
    exact told_8 c0 c1 l w a n cap hn hc hm hb
  · rcases l with _ | ⟨c0, l⟩
    · exact absurd hl (by simp [fds])
    rcases l with _ | ⟨c1, l⟩
    · exact absurd hl (by simp [fds])
    exact told_9 c0 c1 l w a n cap hn hc hm hb
  · rcases l with _ | ⟨c0, l⟩
    · exact absurd hl (by simp [fds])
    rcases l with _ | ⟨c1, l⟩
    · exact absurd hl (by simp [fds])
    exact told_10 c0 c1 l w a n cap hn hc hm hb
  · rcases l with _ | ⟨c0, l⟩
    · exact absurd hl (by simp [fds])
    exact told_11 c0 l w a n cap hn hc hm hb
  · rcases l with _ | ⟨c0, l⟩
    · exact absurd hl (by simp [fds])
    rcases l with _ | ⟨c1, l⟩
    · exact absurd hl (by simp [fds])
    exact told_12 c0 c1 l w a n cap hn hc hm hb
  · rcases l with _ | ⟨c0, l⟩
    · exact absurd hl (by simp [fds])
    rcases l with _ | ⟨c1, l⟩
    · exact absurd hl (by simp [fds])
    exact told_13 c0 c1 l w a n cap hn hc hm hb
  · exact told_14  l w a n cap hn hc hm hb
def OwnQ (w : World) (B : Nat) (v : Value) (l : List St) : Prop := w.ownsRow B 29 7 v l.length (scells l)
theorem infoQ : (Tryz.prog.info? 29).map (fun i => (i.zero, i.size, i.bytes)) = some (some (.agg #[.int .i64 0, .int .i64 0, .int .u8 0, .int .u8 0, .int .i64 0, .int .u8 0, .int .i64 0]), 7, 48) := by kernel_rfl
theorem ownq_slice {w : World} {B : Nat} {v : Value} {l : List St} (h : OwnQ w B v l) : ∃ a cap, v = .slice a l.length cap := by
  rcases h.2 with ⟨h1, h2⟩ | ⟨g, cap, cur, h1, _⟩
  · exact ⟨none, 0, by rw [h1, h2]⟩
  · exact ⟨_, cap, h1⟩
theorem ownq_below {w w' : World} {B : Nat} {v : Value} {l : List St} (h : OwnQ w B v l) (hb : Below w.heap.size w w') : OwnQ w' B v l :=
  World.ownsRow.kept h (row := none) ⟨hb.os, hb.tape, hb.output, hb.size, fun i hi _ => hb.block i hi⟩ (by cases v.ownBlock <;> simp)
theorem ownq_read {w : World} {B : Nat} {v : Value} {l : List St} (h : OwnQ w B v l) (hl : 0 < l.length) :
    ∃ g cap, v = .slice (some ⟨g, 0, none⟩) l.length cap ∧ l.length ≤ cap ∧ cap ≤ maxLen ∧ B ≤ g ∧ g < w.heap.size ∧ ∀ i (h : i < l.length), w.cell? ⟨g, i * 7, none⟩ = some (.int .i64 l[i].what) ∧ w.cell? ⟨g, i * 7 + 1, none⟩ = some (.int .i64 l[i].tx) ∧
      w.cell? ⟨g, i * 7 + 2, none⟩ = some (.int .u8 l[i].a) ∧ w.cell? ⟨g, i * 7 + 3, none⟩ = some (.int .u8 l[i].b) ∧ w.cell? ⟨g, i * 7 + 4, none⟩ = some (.int .i64 l[i].kind) ∧ w.cell? ⟨g, i * 7 + 5, none⟩ = some (.int .u8 l[i].key) ∧ w.cell? ⟨g, i * 7 + 6, none⟩ = some (.int .i64 l[i].n) := by
  have hc := fun g => World.ownsRow.cells (g := g) h
  have hlt := h.lt
  rcases h.2 with ⟨h1, h2⟩ | ⟨g, cap, cur, h1, _, _, h3, h4, _⟩
  · omega
  · subst h1
    refine ⟨g, cap, rfl, h3, h4, (hlt g rfl).1, (hlt g rfl).2, fun i hi => ?_⟩
    have e : ∀ j, ((⟨g, 0, none⟩ : Addr).add j) = ⟨g, j, none⟩ := fun j => by unfold Addr.add; split <;> simp_all
    have key : ∀ j v, j < 7 → (scell l[i])[j]? = some v → w.cell? ⟨g, i * 7 + j, none⟩ = some v := fun j v hj hv => by
      have := hc g rfl (i * 7 + j) v (by rw [scells_get l i hi j hj]; exact hv)
      rwa [e] at this
    exact ⟨key 0 _ (by decide) rfl, key 1 _ (by decide) rfl, key 2 _ (by decide) rfl, key 3 _ (by decide) rfl, key 4 _ (by decide) rfl, key 5 _ (by decide) rfl, key 6 _ (by decide) rfl⟩
def RelQ (w : World) (l0 : List UInt8) (s0 s3 : Value) (wr : World) : Prop :=
  ∃ (l : List UInt8) (a : Option Addr) (cap : Nat) (acc : List St), s0 = .slice a l.length cap ∧ l.length ≤ cap ∧ cap ≤ maxLen ∧ IsB wr w.heap.size a l ∧ OwnQ wr w.heap.size s3 acc ∧ acc.length ≤ 300 ∧ dec 0 l0 = acc ++ dec acc.length l ∧ Below w.heap.size w wr
def RDecPost (w : World) (l : List UInt8) (r : Ending) (w' : World) : Prop := ∃ v, r = .returned v ∧ OwnQ w' w.heap.size v (dec 0 l) ∧ Below w.heap.size w w'
set_option maxHeartbeats 8000000 in
theorem rdecode_any (w : World) (a0 : Option Addr) (l0 : List UInt8) (cap0 : Nat) (h0 : IsB w w.heap.size a0 l0) (hc0 : l0.length ≤ cap0) (hm0 : cap0 ≤ maxLen) :
    Calls Tryz.prog 10 #[.slice a0 l0.length cap0] w (RDecPost w l0) := by
  have hIN : RelQ w l0 (.slice a0 l0.length cap0) (.slice none 0 0) w := ⟨l0, a0, cap0, [], rfl, hc0, hm0, h0, World.ownsRow_nil w _ _ 7, by simp, by simp, Below.refl _ _⟩
  clear h0 hc0 hm0
  go_enter Tryz.func10, Tryz.ntmps10
  go_wp2_with fail
  go_loopw [0, 3] (fun s0 s3 wr => RelQ w l0 s0 s3 wr) (fun s0 _ _ => slen s0)
  case atStart => exact hIN
  case round =>
    obtain ⟨wo, h_wo⟩ : ∃ v : World, v = wr := ⟨_, rfl⟩; subst h_wo
    clear hIN
    obtain ⟨l, a, cap, acc, rfl, hlc, hcm, hB, hO, hacc, hdec, hBl⟩ := hrel
    obtain ⟨ao, co, rfl⟩ := ownq_slice hO
    have HO := Lib.hid hO
    have HD := Lib.hid hdec
    clear hO hdec
    cases l with
    | nil =>
      clear hB
      go_wp2_with fail
      go_ret
      refine ⟨_, rfl, ?_, hBl⟩
      rw [HD.out, dec_nil, List.append_nil]
      exact HO.out
    | cons c l =>
      by_cases h300 : acc.length = 300
      · have hI : ¬ (acc.length : Int) < 300 := by omega
        have hI2 : (0 : Int) < ((c :: l).length : Int) := by simp only [List.length_cons]; omega
        have H300 := Lib.hid h300
        clear hB h300
        go_wp2_with fail
        go_ret
        refine ⟨_, rfl, ?_, hBl⟩
        have h300 := H300.out
        rw [HD.out, dec_cons, if_pos (by omega), List.append_nil]
        exact HO.out
      · have hI : (acc.length : Int) < 300 := by omega
        have hI2 : (0 : Int) < ((l.length + 1 : Nat) : Int) := by omega
        obtain ⟨b, off, rfl, hbB, hcells⟩ := hB (by simp)
        have q0 := hcells 0 (by simp)
        simp only [Nat.add_zero, List.getElem_cons_zero] at q0
        have hrest : IsB wo w.heap.size (if cap = 1 then some ⟨b, off, none⟩ else some ⟨b, off + 1, none⟩) l := hB.rest 1 cap hlc
        simp only [List.length_cons] at hlc
        have hw : ((c.toNat : Nat) : Int) % 15 = ((c.toNat % 15 : Nat) : Int) := by omega
        have hwl : c.toNat % 15 < 15 := Nat.mod_lt _ (by decide)
        have hdc := dec_cons acc.length c l
        rw [if_neg (by omega)] at hdc
        have HDC := Lib.hid hdc
        have hc256 := c.toNat_lt
        have hbr : b < wo.heap.size := Flat.cell_lt q0
        generalize hcn : c.toNat % 15 = what at *
        have HA1 := Lib.hid hrest
        clear hdc hrest hcells hB
        by_cases hw0 : what = 0
        · have hwI : (what : Int) = 0 := by omega
          subst hw0
          have HBL := Lib.hid hBl
          clear hBl
          go_wp2_with fail
          have hBl := HBL.out
          refine ⟨⟨l, _, _, acc, rfl, by omega, by omega, HA1.out, HO.out, hacc, ?_, hBl⟩, by simp [slen]⟩
          rw [HD.out, HDC.out, if_pos rfl]
        · have hwI : ¬ (what : Int) = 0 := by omega
          have hbs := hBl.size
          go_upto_if 22 with (fail)
          have hA1 := HA1.out
          clear HA1
          generalize (if cap = 1 then some (⟨b, off, none⟩ : Addr) else some ⟨b, off + 1, none⟩) = a1 at *
          have HA1 := Lib.hid hA1
          clear hA1
          go_wp2_with fail
          refine (size_any what hwl hw0 wo).mono ?_
          rintro r v2 ⟨rfl, rfl⟩
          by_cases hsh : l.length < (fds what).length
          · have hI3 : (l.length : Int) < ((fds what).length : Int) := by omega
            go_wp2_with fail
            go_ret
            refine ⟨_, rfl, ?_, hBl⟩
            rw [HD.out, HDC.out, if_neg hw0, if_pos hsh, List.append_nil]
            exact HO.out
          · have hI3 : ¬ (l.length : Int) < ((fds what).length : Int) := by omega
            have hI4 : ((fds what).length : Int) ≤ ((cap - 1 : Nat) : Int) := by omega
            have hn5 := fds_len what
            have HT := Lib.hid (fun W (hW : Below w.heap.size v2 W) (hs : w.heap.size ≤ W.heap.size) => told_any what hwl hw0 l (by omega) W a1 (fds what).length (cap - 1) rfl (by omega) (by omega) ((HA1.out.below hW).mono hs))
            have hst' := HDC.out
            rw [if_neg hw0, if_neg hsh] at hst'
            have HST' := Lib.hid hst'
            generalize puts (start0 what) (fds what) l = st at *
            clear hst'
            go_wp2_with fail
            refine (HT.out v2 (Below.refl _ _) hbs).mono ?_
            rintro r v3 ⟨rfl, hb3⟩
            have hO3 := ownq_below HO.out hb3
            have hA3 := HA1.out.below (hb3.mono hbs)
            have hB3 : Below w.heap.size w v3 := hBl.trans (hb3.mono hbs)
            have hbs3 := hB3.size
            have HAR := Lib.hid (hA3.rest (fds what).length (cap - 1) (by omega))
            have HOZ := Lib.hid hO3
            have HB3 := Lib.hid hB3
            obtain ⟨i0, hi, hz0, hz1, hz2⟩ := info_parts infoQ
            have hlI : ((fds what).length : Int) ≤ (l.length : Int) := by omega
            have h5 : (fds what).length ≤ 5 := hn5
            clear hO3 hA3 hB3 hBl hb3 HT HO HA1 q0 hbr
            go_wp2_with (first | (at_builtin; refine wpList_append_own_at _ rfl _ _ 26 rfl w.heap.size 29 i0 _ 7 48 Tryz.underlying26 hi hz0 hz1 hz2 rfl (by decide) _ acc.length _ rfl (ownq_below HOZ.out ((Below.refl _ _).alloc (Nat.le_refl _) _)) ⟨v3.heap.size, 0, none⟩ 1 1 (scell st) rfl rfl (fun j u hu => new_step hu) (scell_one st) (by unfold maxLen; omega) (by omega) (by simp; omega) ?_; intro v8 w8 hob8 hg8 hnil8 hloc8; have hB8 := (Below.refl w.heap.size _).grown hg8 (by simp; omega) (fun j hj => (HOZ.out.lt j hj).1); have HOB8 := Lib.hid hob8; have HB8 := Lib.hid hB8; clear hob8 hg8 hnil8 hloc8 hB8))
            have hba : Below w.heap.size v3 w8 := ((Below.refl _ v3).alloc hbs3 _).trans HB8.out
            refine ⟨⟨l.drop (fds what).length, _, _, acc ++ [st], by rw [List.length_drop], by rw [List.length_drop]; omega, by omega, HAR.out.below hba, ?_, by simp; omega, ?_, HB3.out.trans hba⟩, by simp only [slen, List.length_cons]; omega⟩
            · rw [OwnQ, List.length_append, scells_append]
              exact HOB8.out
            · rw [HD.out, HST'.out, List.length_append, List.append_assoc]
              rfl
end Go.Proofs.YtammpdifkpfafaaGreatDoor.Script
