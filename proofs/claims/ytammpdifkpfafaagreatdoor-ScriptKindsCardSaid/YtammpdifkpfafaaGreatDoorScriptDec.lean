/- What package script's Decode answers. -/
import Derived.Test.YtammpdifkpfafaaGreatDoorScript
import Derived.Laws.AppendOwn
import Derived.Deep.DeepCutAuto
import Derived.Shelf.Abstract
namespace Go.Proofs.YtammpdifkpfafaaGreatDoor.Script
open Go.RowKit Flat ByteMem ScriptSpec
set_option linter.unusedSimpArgs false
set_option linter.unusedVariables false
set_option maxRecDepth 100000

def scells (l : List St) : List Value := l.flatMap scell
theorem scells_append (a b : List St) : scells (a ++ b) = scells a ++ scells b := by simp [scells]
theorem scells_length (l : List St) : (scells l).length = l.length * 7 := by
  induction l with
  | nil => rfl
  | cons x l ih =>
    have e : scells (x :: l) = scell x ++ scells l := rfl
    rw [e, List.length_append, ih, List.length_cons]
    simp only [scell, List.length_cons, List.length_nil]
    omega
theorem scells_get : ∀ (l : List St) (i : Nat) (h : i < l.length) (j : Nat), j < 7 → (scells l)[i * 7 + j]? = (scell l[i])[j]?
  | x :: l, 0, _, j, hj => by
    have e : scells (x :: l) = scell x ++ scells l := rfl
    rw [e, Nat.zero_mul, Nat.zero_add, List.getElem?_append_left (by exact hj)]
    rfl
  | x :: l, i + 1, h, j, hj => by
    have e : scells (x :: l) = scell x ++ scells l := rfl
    rw [e, List.getElem?_append_right (by simp only [scell, List.length_cons, List.length_nil]; omega)]
    have := scells_get l i (by simpa using h) j hj
    rw [show (i + 1) * 7 + j - (scell x).length = i * 7 + j by simp only [scell, List.length_cons, List.length_nil]; omega, this]
    rfl
theorem scell_one (s : St) : ∀ u ∈ scell s, u.oneCell' = true := by
  intro u hu
  simp only [scell, List.mem_cons, List.not_mem_nil, or_false] at hu
  rcases hu with rfl | rfl | rfl | rfl | rfl | rfl | rfl <;> rfl
/-- v is a row of steps of the call's own, behind block B. -/
def OwnS (w : World) (B : Nat) (v : Value) (l : List St) : Prop := w.ownsRow B 30 7 v l.length (scells l)
theorem infoT : (Tryz.prog.info? 30).map (fun i => (i.zero, i.size, i.bytes)) = some (some (.agg #[.int .i64 0, .int .i64 0, .int .u8 0, .int .u8 0, .int .i64 0, .int .u8 0, .int .i64 0]), 7, 48) := by kernel_rfl
theorem owns_nil (w : World) (B : Nat) : OwnS w B (.slice none 0 0) [] := World.ownsRow_nil w B _ 7
theorem owns_slice {w : World} {B : Nat} {v : Value} {l : List St} (h : OwnS w B v l) : ∃ a cap, v = .slice a l.length cap := by
  rcases h.2 with ⟨h1, h2⟩ | ⟨g, cap, cur, h1, _⟩
  · exact ⟨none, 0, by rw [h1, h2]⟩
  · exact ⟨_, cap, h1⟩
theorem row_slice {w : World} {B n k : Nat} {e : TypeId} {v : Value} {l : List Value} (h : w.ownsRow B e k v n l) : ∃ a cap, v = .slice a n cap := by
  rcases h.2 with ⟨h1, h2⟩ | ⟨g, cap, cur, h1, _⟩
  · exact ⟨none, 0, by rw [h1, h2]⟩
  · exact ⟨_, cap, h1⟩
theorem owns_below {w w' : World} {B : Nat} {v : Value} {l : List St} (h : OwnS w B v l) (hb : Below w.heap.size w w') : OwnS w' B v l :=
  World.ownsRow.kept h (row := none) ⟨hb.os, hb.tape, hb.output, hb.size, fun i hi _ => hb.block i hi⟩ (by cases v.ownBlock <;> simp)
/-- The steps, read. -/
theorem owns_read {w : World} {B : Nat} {v : Value} {l : List St} (h : OwnS w B v l) (hl : 0 < l.length) :
    ∃ g cap, v = .slice (some ⟨g, 0, none⟩) l.length cap ∧ l.length ≤ cap ∧ cap ≤ maxLen ∧ B ≤ g ∧ g < w.heap.size ∧ ∀ i (h : i < l.length), w.cell? ⟨g, i * 7, none⟩ = some (.int .i64 l[i].what) ∧ w.cell? ⟨g, i * 7 + 1, none⟩ = some (.int .i64 l[i].tx) ∧
      w.cell? ⟨g, i * 7 + 2, none⟩ = some (.int .u8 l[i].a) ∧ w.cell? ⟨g, i * 7 + 3, none⟩ = some (.int .u8 l[i].b) ∧ w.cell? ⟨g, i * 7 + 4, none⟩ = some (.int .i64 l[i].kind) ∧ w.cell? ⟨g, i * 7 + 5, none⟩ = some (.int .u8 l[i].key) ∧ w.cell? ⟨g, i * 7 + 6, none⟩ = some (.int .i64 l[i].n) := by
  have hc := fun g => World.ownsRow.cells (g := g) h
  have hlt := h.lt
  rcases h.2 with ⟨h1, h2⟩ | ⟨g, cap, cur, h1, _, _, h3, h4, _⟩
  · omega
  · subst h1
    refine ⟨g, cap, rfl, h3, h4, (hlt g rfl).1, (hlt g rfl).2, fun i hi => ?_⟩
    have e : ∀ j, ((⟨g, 0, none⟩ : Addr).add j) = ⟨g, j, none⟩ := fun j => by unfold Addr.add; split <;> simp_all
    have key : ∀ j v, j < 7 → (scell l[i])[j]? = some v → w.cell? ⟨g, i * 7 + j, none⟩ = some v := fun j v hj hv => by
      have := hc g rfl (i * 7 + j) v (by rw [scells_get l i hi j hj]; exact hv)
      rwa [e] at this
    exact ⟨key 0 _ (by decide) rfl, key 1 _ (by decide) rfl, key 2 _ (by decide) rfl, key 3 _ (by decide) rfl, key 4 _ (by decide) rfl, key 5 _ (by decide) rfl, key 6 _ (by decide) rfl⟩
theorem grown_set (w : World) (p : Addr) (v : Value) : w.grownBy (w.setCell p v) (some p.block) :=
  ⟨rfl, rfl, rfl, by simp, fun k _ hne => Below.heap_setCell _ _ _ _ (fun h => hne (by rw [h]))⟩
theorem puts_snoc : ∀ (fs : List Fld) (s : St) (l : List UInt8) (i : Nat) (h : i < fs.length) (h' : i < l.length), puts s (fs.take (i + 1)) l = put (puts s (fs.take i) l) (l[i].toNat : Int) fs[i]
  | f :: fs, s, c :: l, 0, _, _ => by simp [puts]
  | f :: fs, s, c :: l, i + 1, h, h' => by
    have h1 : i < l.length := by simpa using h'
    have h2 : i < fs.length := by simpa using h
    rw [List.take_succ_cons, List.take_succ_cons]
    show puts (put s (c.toNat : Int) f) (fs.take (i + 1)) l = put (puts (put s (c.toNat : Int) f) (fs.take i) l) (l[i].toNat : Int) fs[i]
    exact puts_snoc fs _ l i h2 h1
theorem new_step {w : World} {s : St} {t : TypeId} {j : Nat} {u : Value} (h : (scell s)[j]? = some u) :
    (w.alloc (.cells #[.int .i64 s.what, .int .i64 s.tx, .int .u8 s.a, .int .u8 s.b, .int .i64 s.kind, .int .u8 s.key, .int .i64 s.n] t)).cell? ((⟨w.heap.size, 0, none⟩ : Addr).add j) = some u := by
  have e : ((⟨w.heap.size, 0, none⟩ : Addr).add j) = ⟨w.heap.size, j, none⟩ := by unfold Addr.add; split <;> simp_all
  rw [e, World.cell?_alloc_new]
  simpa [scell] using h
theorem grown_below {v w : World} {bs B : Nat} (h : v.grownBy w (some bs)) (hB : B ≤ bs) (hv : B ≤ v.heap.size) : Below B v w :=
  ⟨h.os, h.tape, h.output, h.size, fun i hi => h.block i (by omega) (fun e => by cases e; omega)⟩
def slen : Value → Nat
  | .slice _ n _ => n
  | _ => 0
def RelD (w : World) (l0 : List UInt8) (s0 s3 : Value) (wr : World) : Prop :=
  ∃ (l : List UInt8) (a : Option Addr) (cap : Nat) (acc : List St), s0 = .slice a l.length cap ∧ l.length ≤ cap ∧ cap ≤ maxLen ∧ IsB wr w.heap.size a l ∧ OwnS wr w.heap.size s3 acc ∧ acc.length ≤ 300 ∧ dec 0 l0 = acc ++ dec acc.length l ∧ Below w.heap.size w wr
def RelF (v : World) (bs : Nat) (what : Nat) (l : List UInt8) (i : Value) (wr : World) : Prop :=
  ∃ k : Nat, k ≤ (fds what).length ∧ i = .int .i64 (k : Int) ∧ v.grownBy wr (some bs) ∧ StAt wr bs (puts (start0 what) ((fds what).take k) l)
def DecPost (w : World) (l : List UInt8) (r : Ending) (w' : World) : Prop := ∃ v, r = .returned v ∧ OwnS w' w.heap.size v (dec 0 l) ∧ Below w.heap.size w w'
set_option maxHeartbeats 8000000 in
theorem decode_any (w : World) (a0 : Option Addr) (l0 : List UInt8) (cap0 : Nat) (h0 : IsB w w.heap.size a0 l0) (hc0 : l0.length ≤ cap0) (hm0 : cap0 ≤ maxLen) :
    Calls Tryz.prog 9 #[.slice a0 l0.length cap0] w (DecPost w l0) := by
  have hIN : RelD w l0 (.slice a0 l0.length cap0) (.slice none 0 0) w := ⟨l0, a0, cap0, [], rfl, hc0, hm0, h0, owns_nil _ _, by simp, by simp, Below.refl _ _⟩
  clear h0 hc0 hm0
  go_enter Tryz.func9, Tryz.ntmps9
  go_wp2_with fail
  go_loopw [0, 3] (fun s0 s3 wr => RelD w l0 s0 s3 wr) (fun s0 _ _ => slen s0)
  case atStart => exact hIN
  case round =>
    obtain ⟨wo, h_wo⟩ : ∃ v : World, v = wr := ⟨_, rfl⟩; subst h_wo
    clear hIN
    obtain ⟨l, a, cap, acc, rfl, hlc, hcm, hB, hO, hacc, hdec, hBl⟩ := hrel
    obtain ⟨ao, co, rfl⟩ := owns_slice hO
    have HO := Lib.hid hO
    have HD := Lib.hid hdec
    clear hO hdec
    cases l with
    | nil =>
      clear hB
      go_wp2_with fail
      go_ret
      refine ⟨_, rfl, ?_, hBl⟩
      rw [HD.out, dec_nil, List.append_nil]
      exact HO.out
    | cons c l =>
      by_cases h300 : acc.length = 300
      · have hI : ¬ (acc.length : Int) < 300 := by omega
        have hI2 : (0 : Int) < ((c :: l).length : Int) := by simp only [List.length_cons]; omega
        have H300 := Lib.hid h300
        clear hB h300
        go_wp2_with fail
        go_ret
        refine ⟨_, rfl, ?_, hBl⟩
        have h300 := H300.out
        rw [HD.out, dec_cons, if_pos (by omega), List.append_nil]
        exact HO.out
      · have hI : (acc.length : Int) < 300 := by omega
        have hI2 : (0 : Int) < ((l.length + 1 : Nat) : Int) := by omega
        obtain ⟨b, off, rfl, hbB, hcells⟩ := hB (by simp)
        have q0 := hcells 0 (by simp)
        simp only [Nat.add_zero, List.getElem_cons_zero] at q0
        have hrest : IsB wo w.heap.size (if cap = 1 then some ⟨b, off, none⟩ else some ⟨b, off + 1, none⟩) l := hB.rest 1 cap hlc
        simp only [List.length_cons] at hlc
        have hw : ((c.toNat : Nat) : Int) % 15 = ((c.toNat % 15 : Nat) : Int) := by omega
        have hwl : c.toNat % 15 < 15 := Nat.mod_lt _ (by decide)
        have hdc := dec_cons acc.length c l
        rw [if_neg (by omega)] at hdc
        have HDC := Lib.hid hdc
        have hc256 := c.toNat_lt
        have hbr : b < wo.heap.size := Flat.cell_lt q0
        generalize hcn : c.toNat % 15 = what at *
        have HA1 := Lib.hid hrest
        clear hdc hrest hcells hB
        by_cases hw0 : what = 0
        · have hwI : (what : Int) = 0 := by omega
          subst hw0
          have hb1 : Below w.heap.size w (wo.alloc (.cells #[.int .i64 0, .int .i64 0, .int .u8 0, .int .u8 0, .int .i64 0, .int .u8 0, .int .i64 0] 30)) := hBl.alloc hBl.size _
          have hbo : Below wo.heap.size wo (wo.alloc (.cells #[.int .i64 0, .int .i64 0, .int .u8 0, .int .u8 0, .int .i64 0, .int .u8 0, .int .i64 0] 30)) := (Below.refl _ _).alloc (Nat.le_refl _) _
          have HB1 := Lib.hid hb1
          have HBO := Lib.hid hbo
          clear hb1 hbo
          go_wp2_with fail
          refine ⟨⟨l, _, _, acc, rfl, by omega, by omega, HA1.out.below (HBO.out.mono hBl.size), owns_below HO.out HBO.out, hacc, ?_, HB1.out⟩, by simp [slen]⟩
          rw [HD.out, HDC.out, if_pos rfl]
        · have hwI : ¬ (what : Int) = 0 := by omega
          have hbs := hBl.size
          go_upto_if 26 with (fail)
          have hA1 := HA1.out
          clear HA1
          generalize (if cap = 1 then some (⟨b, off, none⟩ : Addr) else some ⟨b, off + 1, none⟩) = a1 at *
          have HA1 := Lib.hid hA1
          clear hA1
          go_wp2_with fail
          generalize hv1 : World.alloc wo _ = v1
          obtain ⟨hb1, hz1, hc1⟩ := alloc_facts hv1
          have hst : StAt v1 wo.heap.size (start0 what) := by
            refine ⟨hc1 0, hc1 1, hc1 2, hc1 3, hc1 4, hc1 5, hc1 6, fun o => ?_⟩
            rw [← hv1]; exact World.frozen?_alloc_at _ _ _ _ rfl
          have hO1 := owns_below HO.out hb1
          have hA1 := HA1.out.below (hb1.mono hbs)
          have hB1 : Below w.heap.size w v1 := hBl.trans (hb1.mono hbs)
          have hlt1 := fun j e => (HO.out.lt j e).2
          clear hv1 hc1 hb1 HO HA1 hBl
          refine (fields_any what hwl hw0 v1).mono ?_
          rintro r v2 ⟨v, rfl, ⟨fa, rfl, hfa⟩, hb2⟩
          have hst2 := hst.kept hb2
          have hO2 := owns_below hO1 hb2
          have hs1 : w.heap.size ≤ v1.heap.size := by omega
          have hA2 := hA1.below (hb2.mono hs1)
          have hB2 : Below w.heap.size w v2 := hB1.trans (hb2.mono hs1)
          have hbs1 : w.heap.size ≤ wo.heap.size := hbs
          clear hst hO1 hA1 hB1
          generalize wo.heap.size = bs at *
          by_cases hsh : l.length < (fds what).length
          · have hI3 : (l.length : Int) < ((fds what).length : Int) := by omega
            have HF := Lib.hid hfa
            have HO2 := Lib.hid hO2
            clear hfa hA2 hst2 hO2
            go_wp2_with fail
            go_ret
            refine ⟨_, rfl, ?_, hB2⟩
            rw [HD.out, HDC.out, if_neg hw0, if_pos hsh, List.append_nil]
            exact HO2.out
          · have hI3 : ¬ (l.length : Int) < ((fds what).length : Int) := by omega
            have HF := Lib.hid hfa
            have HO2 := Lib.hid hO2
            have HA2 := Lib.hid hA2
            have HST := Lib.hid hst2
            clear hfa hA2 hst2 hO2
            go_wp2_with fail
            generalize hbz : bs = bq at *
            go_loopw [37] (fun i wr => RelF v2 bq what l i wr) (fun i _ => (fds what).length - (intOf i).toNat)
            case atStart => exact ⟨0, by omega, rfl, World.grownBy.refl _ _, by rw [List.take_zero]; exact HST.out⟩
            case round =>
              obtain ⟨wz, h_wz⟩ : ∃ v : World, v = wr := ⟨_, rfl⟩; subst h_wz
              obtain ⟨k, hk, rfl, hG, hS⟩ := hrel
              by_cases hkn : k = (fds what).length
              · have hI4 : ¬ (k : Int) < ((fds what).length : Int) := by omega
                subst hkn
                rw [List.take_length] at hS
                have hsz := hG.size
                have hBz : Below w.heap.size w wz := hB2.trans (grown_below hG hbs1 (by have := hB2.size; omega))
                have hOz : OwnS wz w.heap.size (.slice ao acc.length co) acc := World.ownsRow.kept HO2.out hG (by
                  have hlt2 := fun j e => (hlt1 j e)
                  generalize Value.ownBlock _ = o at hlt2 ⊢
                  cases o with
                  | none => exact .inl rfl
                  | some j => exact .inr (fun e => by cases e; have := hlt2 bq rfl; omega))
                have hAz := HA2.out.below (grown_below hG hbs1 (by have := hB2.size; omega))
                have hAr := fun h => hAz.rest (fds what).length (cap - 1) h
                have HAR := Lib.hid (hAr (by omega))
                have HOZ := Lib.hid hOz
                obtain ⟨k0, k1, k2, k3, k4, k5, k6, _⟩ := hS
                have hst' := HDC.out
                rw [if_neg hw0, if_neg hsh] at hst'
                have HST' := Lib.hid hst'
                generalize puts (start0 what) (fds what) l = st at *
                obtain ⟨i0, hi, hz0, hz1, hz2⟩ := info_parts infoT
                have hbz2 := hBz.size
                have hlI : ((fds what).length : Int) ≤ (l.length : Int) := by omega
                clear hst' hAr hAz hOz hG hB2 HST hlt1
                go_wp2_with (first | (at_builtin; refine wpList_append_own_at _ rfl _ _ 24 rfl w.heap.size 30 i0 _ 7 48 Tryz.underlying24 hi hz0 hz1 hz2 rfl (by decide) _ acc.length _ rfl (owns_below HOZ.out ((Below.refl _ _).alloc (Nat.le_refl _) _)) ⟨wz.heap.size, 0, none⟩ 1 1 (scell st) rfl rfl (fun j u hu => new_step hu) (scell_one st) (by unfold maxLen; omega) (by omega) (by simp; omega) ?_; intro v8 w8 hob8 hg8 hnil8 hloc8; have hB8 := (Below.refl w.heap.size _).grown hg8 (by simp; omega) (fun j hj => (HOZ.out.lt j hj).1); have HOB8 := Lib.hid hob8; have HB8 := Lib.hid hB8; clear hob8 hg8 hnil8 hloc8 hB8))
                have hba : Below w.heap.size wz w8 := ((Below.refl _ wz).alloc hbz2 _).trans HB8.out
                refine ⟨⟨l.drop (fds what).length, _, _, acc ++ [st], by rw [List.length_drop], by rw [List.length_drop]; omega, by omega, HAR.out.below hba, ?_, by simp; omega, ?_, hBz.trans hba⟩, by simp only [slen, List.length_cons]; omega⟩
                · rw [OwnS, List.length_append, scells_append]
                  exact HOB8.out
                · rw [HD.out, HST'.out, List.length_append, List.append_assoc]
                  rfl
              · have hkl : k < (fds what).length := by omega
                have hI4 : (k : Int) < ((fds what).length : Int) := by omega
                obtain ⟨gf, hgf1, hgf2, hgf3, hcl⟩ := HF.out (by omega)
                subst hgf1
                have hfk := hcl k hkl
                obtain ⟨bl, offl, ha1, hbl1, hcc⟩ := HA2.out (by omega)
                subst ha1
                have hck := hcc k (by omega)
                rw [← hG.cell_far ⟨gf, k, none⟩ hgf3 (by simp; omega)] at hfk
                rw [← hG.cell_far ⟨bl, offl + k, none⟩ (by show bl < _; omega) (by simp; omega)] at hck
                have hstep := puts_snoc (fds what) (start0 what) l k hkl (by omega)
                have HSTEP := Lib.hid hstep
                have HKL := Lib.hid hkl
                have hk5 : k < 5 := by have := fds_len what; omega
                have HSA := Lib.hid (fun W f h => set_any W bq (puts (start0 what) ((fds what).take k) l) (l[k]'(by omega)).toNat f h (l[k]'(by omega)).toNat_lt)
                generalize hfd : (fds what)[k] = fd at *
                have hklI : (k : Int) < (l.length : Int) := by omega
                clear hstep hcc hcl
                go_wp2_with fail
                cases fd
                · have HE := Go.Proofs.enters_of Tryz.func38 (by kernel_rfl) rfl
                  have HSB := Lib.hid (HSA.out wz .tx hS)
                  clear HSA
                  dsimp only [fnum]
                  go_wp2_with fail
                  refine HSB.out.mono ?_
                  rintro r w5 ⟨rfl, hS5, o, u, hw5⟩
                  have hG5 : v2.grownBy w5 (some bq) := hG.trans (by rw [hw5]; exact grown_set wz ⟨bq, o, none⟩ u)
                  rw [← HSTEP.out] at hS5
                  have HS5 := Lib.hid hS5
                  have HG5 := Lib.hid hG5
                  clear hS5 hG5 hw5 hS hG HE HSB
                  go_wp2_with fail
                  go_roundw
                  case rel => exact ⟨k + 1, by have := HKL.out; omega, by go_num, HG5.out, HS5.out⟩
                  case measure => have := HKL.out; simp [intOf]; omega
                · have HE := Go.Proofs.enters_of Tryz.func39 (by kernel_rfl) rfl
                  have HSB := Lib.hid (HSA.out wz .a hS)
                  clear HSA
                  dsimp only [fnum]
                  go_wp2_with fail
                  refine HSB.out.mono ?_
                  rintro r w5 ⟨rfl, hS5, o, u, hw5⟩
                  have hG5 : v2.grownBy w5 (some bq) := hG.trans (by rw [hw5]; exact grown_set wz ⟨bq, o, none⟩ u)
                  rw [← HSTEP.out] at hS5
                  have HS5 := Lib.hid hS5
                  have HG5 := Lib.hid hG5
                  clear hS5 hG5 hw5 hS hG HE HSB
                  go_wp2_with fail
                  go_roundw
                  case rel => exact ⟨k + 1, by have := HKL.out; omega, by go_num, HG5.out, HS5.out⟩
                  case measure => have := HKL.out; simp [intOf]; omega
                · have HE := Go.Proofs.enters_of Tryz.func40 (by kernel_rfl) rfl
                  have HSB := Lib.hid (HSA.out wz .b hS)
                  clear HSA
                  dsimp only [fnum]
                  go_wp2_with fail
                  refine HSB.out.mono ?_
                  rintro r w5 ⟨rfl, hS5, o, u, hw5⟩
                  have hG5 : v2.grownBy w5 (some bq) := hG.trans (by rw [hw5]; exact grown_set wz ⟨bq, o, none⟩ u)
                  rw [← HSTEP.out] at hS5
                  have HS5 := Lib.hid hS5
                  have HG5 := Lib.hid hG5
                  clear hS5 hG5 hw5 hS hG HE HSB
                  go_wp2_with fail
                  go_roundw
                  case rel => exact ⟨k + 1, by have := HKL.out; omega, by go_num, HG5.out, HS5.out⟩
                  case measure => have := HKL.out; simp [intOf]; omega
                · have HE := Go.Proofs.enters_of Tryz.func42 (by kernel_rfl) rfl
                  have HSB := Lib.hid (HSA.out wz .kind hS)
                  clear HSA
                  dsimp only [fnum]
                  go_wp2_with fail
                  refine HSB.out.mono ?_
                  rintro r w5 ⟨rfl, hS5, o, u, hw5⟩
                  have hG5 : v2.grownBy w5 (some bq) := hG.trans (by rw [hw5]; exact grown_set wz ⟨bq, o, none⟩ u)
                  rw [← HSTEP.out] at hS5
                  have HS5 := Lib.hid hS5
                  have HG5 := Lib.hid hG5
                  clear hS5 hG5 hw5 hS hG HE HSB
                  go_wp2_with fail
                  go_roundw
                  case rel => exact ⟨k + 1, by have := HKL.out; omega, by go_num, HG5.out, HS5.out⟩
                  case measure => have := HKL.out; simp [intOf]; omega
                · have HE := Go.Proofs.enters_of Tryz.func43 (by kernel_rfl) rfl
                  have HSB := Lib.hid (HSA.out wz .key hS)
                  clear HSA
                  dsimp only [fnum]
                  go_wp2_with fail
                  refine HSB.out.mono ?_
                  rintro r w5 ⟨rfl, hS5, o, u, hw5⟩
                  have hG5 : v2.grownBy w5 (some bq) := hG.trans (by rw [hw5]; exact grown_set wz ⟨bq, o, none⟩ u)
                  rw [← HSTEP.out] at hS5
                  have HS5 := Lib.hid hS5
                  have HG5 := Lib.hid hG5
                  clear hS5 hG5 hw5 hS hG HE HSB
                  go_wp2_with fail
                  go_roundw
                  case rel => exact ⟨k + 1, by have := HKL.out; omega, by go_num, HG5.out, HS5.out⟩
                  case measure => have := HKL.out; simp [intOf]; omega
                · have HE := Go.Proofs.enters_of Tryz.func41 (by kernel_rfl) rfl
                  have HSB := Lib.hid (HSA.out wz .n hS)
                  clear HSA
                  dsimp only [fnum]
                  go_wp2_with fail
                  refine HSB.out.mono ?_
                  rintro r w5 ⟨rfl, hS5, o, u, hw5⟩
                  have hG5 : v2.grownBy w5 (some bq) := hG.trans (by rw [hw5]; exact grown_set wz ⟨bq, o, none⟩ u)
                  rw [← HSTEP.out] at hS5
                  have HS5 := Lib.hid hS5
                  have HG5 := Lib.hid hG5
                  clear hS5 hG5 hw5 hS hG HE HSB
                  go_wp2_with fail
                  go_roundw
                  case rel => exact ⟨k + 1, by have := HKL.out; omega, by go_num, HG5.out, HS5.out⟩
                  case measure => have := HKL.out; simp [intOf]; omega
                · have HE := Go.Proofs.enters_of Tryz.func44 (by kernel_rfl) rfl
                  have HSB := Lib.hid (HSA.out wz .signed hS)
                  clear HSA
                  dsimp only [fnum]
                  go_wp2_with fail
                  refine HSB.out.mono ?_
                  rintro r w5 ⟨rfl, hS5, o, u, hw5⟩
                  have hG5 : v2.grownBy w5 (some bq) := hG.trans (by rw [hw5]; exact grown_set wz ⟨bq, o, none⟩ u)
                  rw [← HSTEP.out] at hS5
                  have HS5 := Lib.hid hS5
                  have HG5 := Lib.hid hG5
                  clear hS5 hG5 hw5 hS hG HE HSB
                  go_wp2_with fail
                  go_roundw
                  case rel => exact ⟨k + 1, by have := HKL.out; omega, by go_num, HG5.out, HS5.out⟩
                  case measure => have := HKL.out; simp [intOf]; omega
end Go.Proofs.YtammpdifkpfafaaGreatDoor.Script
