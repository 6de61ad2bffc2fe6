/- What the reference's Decode answers. -/
import Derived.Test.YtajnaiofagppeaaDoorCodeDec
import Derived.Test.YtajnaiofagppeaaDoorCodeREnc
namespace Go.Proofs.YtajnaiofagppeaaDoor.CodeMem
open Go.RowKit CodeSpec Flat
set_option linter.unusedSimpArgs false
set_option linter.unusedVariables false
set_option maxRecDepth 100000

/-- What bytes tell, whatever they are. -/
def loose : List UInt8 → List UInt8 → Nat → List V
  | [], _, _ => []
  | c :: cs, b, p =>
    if c = 116 then ⟨0, ⟨((b.drop (p + 2)).take (val ((b.drop p).take 2))).toArray⟩⟩ :: loose cs b (p + 2 + val ((b.drop p).take 2))
    else ⟨val ((b.drop p).take (wd c)), noS⟩ :: loose cs b (p + wd c)
theorem loose_parse : ∀ (sh b : List UInt8) (p : Nat) (vs : List V) (r : List UInt8), parse sh (b.drop p) = some (vs, r) → loose sh b p = vs
  | [], b, p, vs, r, h => by simp [parse] at h; rw [loose, ← h.1]
  | c :: cs, b, p, vs, r, h => by
    rw [parse] at h
    rw [loose]
    split at h
    · rename_i hc
      rw [if_pos hc]
      split at h
      · cases h
      · split at h
        · cases h
        · split at h
          · cases h
          · obtain ⟨⟨vs', r'⟩, hp, he⟩ := Option.map_eq_some_iff.mp h
            simp at he
            obtain ⟨rfl, rfl⟩ := he
            rw [List.drop_drop, ← Nat.add_assoc] at hp
            rw [loose_parse cs b _ vs' r' hp]
    · rename_i hc
      rw [if_neg hc]
      split at h
      · cases h
      · obtain ⟨⟨vs', r'⟩, hp, he⟩ := Option.map_eq_some_iff.mp h
        simp at he
        obtain ⟨rfl, rfl⟩ := he
        rw [List.drop_drop] at hp
        rw [loose_parse cs b _ vs' r' hp]
theorem rdec_ok {sh b : List UInt8} (h : enc sh (loose sh b 0) = (b, 0)) : dec sh b = (loose sh b 0, 0) := dec_enc h
theorem rdec_err {sh b : List UInt8} (hs : shapeB sh = true) (h : enc sh (loose sh b 0) ≠ (b, 0)) : dec sh b = ([], 4) := by
  rcases dec_err sh b with ⟨vs, hd⟩ | ⟨hd, hs'⟩ | ⟨hd, _⟩
  · have h1 := enc_dec hd
    obtain ⟨_, hp, _⟩ := dec_ok.mp hd
    have := loose_parse sh b 0 vs [] (by simpa using hp)
    rw [this] at h
    exact absurd h1 h
  · rw [hs] at hs'; cases hs'
  · exact hd
theorem loose_len : ∀ (sh b : List UInt8) (p : Nat), (loose sh b p).length = sh.length
  | [], _, _ => rfl
  | c :: cs, b, p => by
    rw [loose]
    split <;> simp [loose_len cs b]

set_option maxHeartbeats 1000000 in
theorem rvalue_any (w : World) (B : Nat) (a : Option Addr) (l : List UInt8) (cap p n : Nat) (pi ni : Int) (hpi : pi = p) (hni : ni = n) (hib : IsB w B a l) (hlc : l.length ≤ cap) (hcm : cap ≤ maxLen) (hp : p ≤ 1000000000) (hn : n ≤ 8) :
    Calls Tryd.prog 68 #[.slice a l.length cap, .int .i64 pi, .int .i64 ni] w fun e w' => e = .returned (.int .u64 (val ((l.drop p).take n) : Nat)) ∧ w = w' := by
  subst hpi hni
  unfold maxLen at hcm
  have hnI : (n : Int) ≤ 8 := by omega
  have hpI : (p : Int) ≤ 1000000000 := by omega
  go_enter Tryd.func68, Tryd.ntmps68
  go_wp2
  go_loop [7, 8] (fun q i => ∃ j : Nat, j ≤ n ∧ i = .int .i64 ((p : Int) + j) ∧ q = .int .u64 ((val ((l.drop p).take j) : Nat) : Int) ∧ (j = 0 ∨ p + j ≤ l.length)) (fun _ i => n + p - (intOf i).toNat)
  case atStart => exact ⟨0, Nat.zero_le _, by simp, by simp [val], .inl rfl⟩
  case round =>
    obtain ⟨j, hj, rfl, rfl, hjl⟩ := hrel
    by_cases hjn : j < n
    · have h1I : (p : Int) + j < (p : Int) + n := by omega
      by_cases hpl : p + j < l.length
      · have h2I : (p : Int) + j < (l.length : Int) := by omega
        obtain ⟨b, off, hab, hb, hc⟩ := hib (by omega)
        subst hab
        have d0 := hc (p + j) hpl
        have hlt : j < (l.drop p).length := by rw [List.length_drop]; omega
        have hsn := val_snoc ((l.drop p).take j) ((l.drop p)[j]'hlt)
        rw [← List.take_succ_eq_append_getElem hlt, List.getElem_drop] at hsn
        have HSN := Lib.hid hsn
        have hv := val_lt ((l.drop p).take j)
        have hvl : ((l.drop p).take j).length = j := by rw [List.length_take]; omega
        rw [hvl] at hv
        have hpw : 256 ^ j ≤ 256 ^ 7 := Nat.pow_le_pow_right (by decide) (by omega)
        have hv2 : val ((l.drop p).take j) < 72057594037927936 := Nat.lt_of_lt_of_le hv hpw
        have hcl := (l[p + j]'hpl).toNat_lt
        clear hc hsn hpw hv hib
        generalize l[p + j]'hpl = c at *
        generalize val ((l.drop p).take j) = q at *
        have hpj : (((p : Int) + (j : Int)).toNat) = p + j := by omega
        go_wp2
        go_round
        case rel => exact ⟨j + 1, by omega, by go_num, by rw [HSN.out]; simp, .inr (by omega)⟩
        case measure => simp [intOf]; omega
      · have h2I : ¬ (p : Int) + j < (l.length : Int) := by omega
        have he : (l.drop p).take n = (l.drop p).take j := by
          have hl2 : (l.drop p).length ≤ j := by rw [List.length_drop]; omega
          rw [List.take_of_length_le (by omega), List.take_of_length_le hl2]
        have HE := Lib.hid he
        clear he
        go_wp2
        go_ret
        exact ⟨by rw [HE.out]; rfl, rfl⟩
    · obtain rfl : j = n := by omega
      go_wp2
      go_ret
      exact ⟨rfl, rfl⟩

/-- Rows of the reference's values. -/
def OwnR (w : World) (B : Nat) (v : Value) (l : List V) : Prop := w.ownsRow B 87 2 v l.length (vcells l)
theorem info50 : (Tryd.prog.info? 87).map (fun i => (i.zero, i.size, i.bytes)) = some (some (.agg #[.int .u64 0, .string ⟨#[]⟩]), 2, 24) := by kernel_rfl
theorem ownr_nil (w : World) (B : Nat) : OwnR w B (.slice none 0 0) [] := World.ownsRow_nil w B _ 2
theorem ownr_lo {w : World} {B : Nat} {v : Value} {l : List V} (h : OwnR w B v l) : ∀ j, v.ownBlock = some j → B ≤ j := fun j hj => (h.lt j hj).1
theorem vcells_get : ∀ (l : List V) (i : Nat) (h : i < l.length), (vcells l)[i * 2]? = some (.int .u64 (l[i].n : Int)) ∧ (vcells l)[i * 2 + 1]? = some (.string l[i].s)
  | x :: l, 0, _ => ⟨rfl, rfl⟩
  | x :: l, i + 1, h => by
    have e : vcells (x :: l) = .int .u64 (x.n : Int) :: .string x.s :: vcells l := rfl
    rw [e, show (i + 1) * 2 = i * 2 + 1 + 1 by omega]
    exact vcells_get l i (by simpa using h)
theorem row_vals {w : World} {B : Nat} {e : TypeId} {v : Value} {l : List V} (h : w.ownsRow B e 2 v l.length (vcells l)) (hl : l.length ≤ maxLen) (hall : ∀ x ∈ l, x.n < 18446744073709551616 ∧ x.s.size ≤ maxLen) : IsVals w v l := by
  have hc := fun g => World.ownsRow.cells (g := g) h
  have hlt := h.lt
  rcases h.2 with ⟨h1, h2⟩ | ⟨g, cap, cur, h1, _⟩
  · exact ⟨none, 0, by rw [h1, h2], hl, hall, fun h => by omega⟩
  · subst h1
    refine ⟨_, cap, rfl, hl, hall, fun _ => ⟨g, 0, rfl, (hlt g rfl).2, fun i hi => ?_⟩⟩
    have hg := vcells_get l i hi
    have e : ∀ j, ((⟨g, 0, none⟩ : Addr).add j) = ⟨g, 0 + j, none⟩ := fun j => by unfold Addr.add; split <;> simp_all
    have h1 := hc g rfl (i * 2) _ hg.1
    have h2 := hc g rfl (i * 2 + 1) _ hg.2
    rw [e] at h1 h2
    exact ⟨h1, by rw [Nat.add_assoc]; exact h2⟩
theorem own_isB {w : World} {B : Nat} {v : Value} {l : List UInt8} (h : OwnB w B v l) : ∃ a cap, v = .slice a l.length cap ∧ l.length ≤ cap ∧ cap ≤ maxLen ∧ IsB w w.heap.size a l := by
  have hc := fun g => World.ownsRow.cells (g := g) h
  have hlt := h.lt
  rcases h.2 with ⟨h1, h2⟩ | ⟨g, cap, cur, h1, _, _, h3, h4, _⟩
  · exact ⟨none, 0, by rw [h1, h2], by omega, by unfold maxLen; omega, fun h => by omega⟩
  · subst h1
    refine ⟨_, cap, rfl, h3, h4, fun _ => ⟨g, 0, rfl, (hlt g rfl).2, fun i hi => ?_⟩⟩
    have e : ∀ j, ((⟨g, 0, none⟩ : Addr).add j) = ⟨g, 0 + j, none⟩ := fun j => by unfold Addr.add; split <;> simp_all
    have h1 := hc g rfl i (.int .u8 (l[i].toNat : Int)) (by rw [bcells, List.getElem?_map, List.getElem?_eq_getElem hi]; rfl)
    rw [e] at h1
    exact h1
theorem loose_bound : ∀ (sh b : List UInt8) (p : Nat), ∀ x ∈ loose sh b p, x.n < 18446744073709551616 ∧ x.s.size ≤ maxLen
  | [], _, _, x, h => by simp [loose] at h
  | c :: cs, b, p, x, h => by
    have key : ∀ m, m ≤ 8 → val ((b.drop p).take m) < 256 ^ m := fun m _ => Nat.lt_of_lt_of_le (val_lt _) (Nat.pow_le_pow_right (by decide) (by rw [List.length_take]; omega))
    rw [loose] at h
    split at h
    · rcases List.mem_cons.mp h with rfl | h
      · refine ⟨by simp, ?_⟩
        have h2 := key 2 (by omega)
        have : (⟨((b.drop (p + 2)).take (val ((b.drop p).take 2))).toArray⟩ : ByteArray).size ≤ val ((b.drop p).take 2) := by
          simp only [ByteArray.size, List.size_toArray, List.length_take]
          omega
        unfold maxLen
        show (⟨_⟩ : ByteArray).size ≤ _
        omega
      · exact loose_bound cs b _ x h
    · rcases List.mem_cons.mp h with rfl | h
      · have hw8 : wd c ≤ 8 := by
          unfold wd
          (repeat' split) <;> decide
        have h2 := key (wd c) hw8
        have h3 : 256 ^ wd c ≤ 256 ^ 8 := Nat.pow_le_pow_right (by decide) hw8
        exact ⟨Nat.lt_of_lt_of_le h2 h3, by unfold maxLen; show noS.size ≤ _; decide⟩
      · exact loose_bound cs b _ x h

def RelRD (w : World) (sh b : List UInt8) (v at_ i : Value) (wr : World) : Prop :=
  ∃ (k p : Nat) (vs : List V), k ≤ sh.length ∧ i = .int .i64 k ∧ at_ = .int .i64 p ∧ p ≤ k * 65537 ∧ vs.length = k ∧ OwnR wr w.heap.size v vs ∧ Below w.heap.size w wr ∧ Hid (loose sh b 0 = vs ++ loose (sh.drop k) b p)
def RDecPost (T : List V × Int) (w : World) (e : Ending) (w' : World) : Prop := ∃ v, e = .returned (.tuple #[v, .int .i64 T.2]) ∧ OwnR w' w.heap.size v T.1 ∧ Below w.heap.size w w'
theorem loose_step {sh b : List UInt8} {k p : Nat} (hk : k < sh.length) : loose (sh.drop k) b p = if sh[k] = 116 then ⟨0, ⟨((b.drop (p + 2)).take (val ((b.drop p).take 2))).toArray⟩⟩ :: loose (sh.drop (k + 1)) b (p + 2 + val ((b.drop p).take 2)) else ⟨val ((b.drop p).take (wd sh[k])), noS⟩ :: loose (sh.drop (k + 1)) b (p + wd sh[k]) := by
  rw [List.drop_eq_getElem_cons hk, loose]
/-- A part of bytes, as the slice expression leaves it. -/
theorem part_isB {w : World} {B : Nat} {a : Option Addr} {l : List UInt8} (h : IsB w B a l) (f m : Nat) (a' : Option Addr) (ha : a' = a.map (fun x => x.add f) ∨ l.length ≤ f) : IsB w B a' ((l.drop f).take m) := by
  rcases ha with rfl | ha
  · exact (h.drop f).take m
  · rw [List.drop_of_length_le ha, List.take_nil]; exact IsB.nil _ _ _

set_option maxRecDepth 100000 in
set_option maxHeartbeats 2000000 in
theorem rdecode_any (s : ByteArray) (a : Option Addr) (l : List UInt8) (cap : Nat) (w : World) (hs : s.size ≤ maxLen) (hib : IsB w w.heap.size a l) (hlc : l.length ≤ cap) (hcm : cap ≤ maxLen) :
    Calls Tryd.prog 36 #[.string s, .slice a l.length cap] w (RDecPost (dec s.data.toList l) w) := by
  have hsz := size_toList s
  have hcm2 := hcm
  unfold maxLen at hcm2
  have hsm := hs
  unfold maxLen at hsm
  cases hsh : shapeB s.data.toList with
  | false =>
    have hT : dec s.data.toList l = ([], 2) := by simp [dec, hsh]
    rw [hT]
    clear hT
    go_enter Tryd.func36, Tryd.ntmps36
    go_wp2_with fail
    refine (rshape_any s _ hs).mono ?_
    rw [hsh]
    rintro e w1 ⟨rfl, rfl⟩
    go_wp2_with fail
    go_ret2
    exact ⟨_, rfl, ownr_nil _ _, Below.refl _ _⟩
  | true =>
    obtain ⟨i0, hi, hz0, hz1, hz2⟩ := info_parts info50
    have H100 : s.size ≤ 100 := by
      unfold shapeB at hsh
      simp only [Bool.and_eq_true, decide_eq_true_eq] at hsh
      omega
    have HLET : ∀ k (h : k < s.data.toList.length), letter (s.data.toList[k]) = true := fun k h => by
      unfold shapeB at hsh
      simp only [Bool.and_eq_true, List.all_eq_true] at hsh
      exact hsh.1 _ (List.getElem_mem _)
    have HL := Lib.hid HLET
    have HSZ := Lib.hid hsz
    clear HLET hsz
    go_enter Tryd.func36, Tryd.ntmps36
    go_wp2_with fail
    refine (rshape_any s _ hs).mono ?_
    rw [hsh]
    rintro e w1 ⟨rfl, rfl⟩
    go_wp2_with fail
    go_loopw [6, 7, 8] (fun v at_ i wr => RelRD w s.data.toList l v at_ i wr) (fun _ _ i _ => s.size - (intOf i).toNat)
    case atStart => exact ⟨0, 0, [], Nat.zero_le _, rfl, rfl, Nat.le_refl _, rfl, ownr_nil _ _, Below.refl _ _, Lib.hid (by simp)⟩
    case round =>
      obtain ⟨wo, h_wo⟩ : ∃ v : World, v = wr := ⟨_, rfl⟩; subst h_wo
      obtain ⟨k, p, vs, hk, rfl, rfl, hp, hvl, hob, hB, hlo⟩ := hrel
      have hks : k ≤ s.size := by rw [HSZ.out] at hk; exact hk
      clear hk
      have hibo : IsB wo w.heap.size a l := hib.kept fun b o hb => hB.cell (p := ⟨b, o, none⟩) hb
      by_cases hkl : k < s.size
      · have hkI : (k : Int) < (s.size : Int) := by omega
        have hkt : k < s.data.toList.length := by rw [HSZ.out]; exact hkl
        have hlet := HL.out k hkt
        have hck : s.data.toList[k] = s[k] := rfl
        rw [hck] at hlet
        have hst := loose_step (b := l) (p := p) hkt
        rw [hck] at hst
        have hw8 : wd s[k] ≤ 8 := by
          unfold wd
          (repeat' split) <;> decide
        have HW := rwidth_any s[k]
        by_cases h6 : s[k] = 116
        · rw [if_pos h6] at hst
          have HST := Lib.hid hst
          clear hst hlet
          have h0 : rwd s[k] = 0 := by rw [h6]; rfl
          rw [h0] at HW
          have HV := rvalue_any wo w.heap.size a l cap p 2 _ _ rfl rfl hibo hlc hcm (by omega) (by omega)
          have hxl : val ((l.drop p).take 2) < 65536 := Nat.lt_of_lt_of_le (val_lt _) (Nat.pow_le_pow_right (n := 256) (i := ((l.drop p).take 2).length) (j := 2) (by decide) (by rw [List.length_take]; omega))
          generalize val ((l.drop p).take 2) = x at *
          clear h6 h0
          go_upto_region 13 with (first | (go_at_call 62; refine (HW _).mono ?_; rintro e w' ⟨rfl, rfl⟩) | (go_at_call 68; refine HV.mono ?_; rintro e w' ⟨rfl, rfl⟩) | fail)
          obtain ⟨f, hf⟩ : ∃ f : Nat, f = min (p + 2) l.length := ⟨_, rfl⟩
          obtain ⟨e2, he2⟩ : ∃ e2 : Nat, e2 = min (f + x) l.length := ⟨_, rfl⟩
          have hm1 : min ((p : Int) + 2) (l.length : Int) = (f : Int) := by omega
          have hm2 : min ((f : Int) + (x : Int)) (l.length : Int) = (e2 : Int) := by omega
          have hfe : f ≤ e2 := by omega
          have hel : e2 ≤ l.length := by omega
          have hpl : ((l.drop (p + 2)).take x).length = e2 - f := by rw [List.length_take, List.length_drop]; omega
          have hb1 : IsB wo w.heap.size (a.map fun x => x.add f) ((l.drop (p + 2)).take x) := by
            by_cases h : p + 2 ≤ l.length
            · obtain rfl : f = p + 2 := by omega
              exact part_isB hibo _ x _ (.inl rfl)
            · exact part_isB hibo _ x _ (.inr (by omega))
          have kc1 := conv_bytes (cap - f) hb1 9 Tryd.underlying9
          have kc2 : cap = f → (convert 81 9 (.slice a (e2 - f) 0)).run Tryd.prog wo = .ok (.string ⟨((l.drop (p + 2)).take x).toArray⟩) wo := fun hcf => by
            have := conv_bytes 0 (part_isB hibo (p + 2) x a (.inr (by omega))) 9 Tryd.underlying9
            rwa [hpl] at this
          rw [hpl] at kc1
          clear hb1 hpl hf he2
          generalize (l.drop (p + 2)).take x = part at *
          by_cases hcf : cap = f
          · obtain rfl : f = cap := hcf.symm
            have kc3 := kc2 rfl
            clear kc2 hcf kc1
            have e0 : e2 - f = 0 := by omega
            rw [e0] at kc3
            go_wp2_with (first | (at_builtin; refine wpList_append_own_at _ rfl _ _ 86 rfl w.heap.size 87 i0 _ 2 24 Tryd.underlying86 hi hz0 hz1 hz2 rfl (by decide) _ _ _ rfl (World.ownsRow.alloc hob _) ⟨wo.heap.size, 0, none⟩ 1 1 [.int .u64 0, .string ⟨part.toArray⟩] rfl rfl (cell_two_new _ _ _ _) (two_one _ _) (by unfold maxLen; omega) (by omega) (Nat.le_trans hB.size (by simp)) ?_; intro v7 w7 hob7 hg7 hnil7 hloc7) | fail)
            go_roundw
            case rel =>
              refine ⟨k + 1, p + 2 + x, vs ++ [⟨0, ⟨part.toArray⟩⟩], by rw [HSZ.out]; omega, by go_num, by go_num, by omega, by simp [hvl], ?_, (hB.alloc hB.size _).grown hg7 (Nat.le_trans hB.size (by simp)) (ownr_lo hob), Lib.hid (by rw [hlo.out, HST.out, List.append_assoc]; rfl)⟩
              rw [OwnR, vcells_append, List.length_append]
              exact hob7
            case measure => simp [intOf]; omega
          · clear kc2
            go_wp2_with (first | (at_builtin; refine wpList_append_own_at _ rfl _ _ 86 rfl w.heap.size 87 i0 _ 2 24 Tryd.underlying86 hi hz0 hz1 hz2 rfl (by decide) _ _ _ rfl (World.ownsRow.alloc hob _) ⟨wo.heap.size, 0, none⟩ 1 1 [.int .u64 0, .string ⟨part.toArray⟩] rfl rfl (cell_two_new _ _ _ _) (two_one _ _) (by unfold maxLen; omega) (by omega) (Nat.le_trans hB.size (by simp)) ?_; intro v7 w7 hob7 hg7 hnil7 hloc7) | fail)
            go_roundw
            case rel =>
              refine ⟨k + 1, p + 2 + x, vs ++ [⟨0, ⟨part.toArray⟩⟩], by rw [HSZ.out]; omega, by go_num, by go_num, by omega, by simp [hvl], ?_, (hB.alloc hB.size _).grown hg7 (Nat.le_trans hB.size (by simp)) (ownr_lo hob), Lib.hid (by rw [hlo.out, HST.out, List.append_assoc]; rfl)⟩
              rw [OwnR, vcells_append, List.length_append]
              exact hob7
            case measure => simp [intOf]; omega
        · obtain ⟨hw1, _⟩ := wd_letter hlet h6
          have hwp := wd_pos' h6
          rw [if_neg h6] at hst
          have HST := Lib.hid hst
          clear hst hlet h6
          rw [hw1] at HW
          have HV := rvalue_any wo w.heap.size a l cap p (wd s[k]) _ _ rfl rfl hibo hlc hcm (by omega) hw8
          have hxl : val ((l.drop p).take (wd s[k])) < 18446744073709551616 := Nat.lt_of_lt_of_le (val_lt _) (Nat.pow_le_pow_right (n := 256) (i := ((l.drop p).take (wd s[k])).length) (j := 8) (by decide) (by rw [List.length_take]; omega))
          generalize val ((l.drop p).take (wd s[k])) = x at *
          have hwpI : (0 : Int) < (wd s[k] : Int) := by omega
          clear hw1
          go_wp2_with (first | (go_at_call 62; refine (HW _).mono ?_; rintro e w' ⟨rfl, rfl⟩) | (go_at_call 68; refine HV.mono ?_; rintro e w' ⟨rfl, rfl⟩) | (at_builtin; refine wpList_append_own_at _ rfl _ _ 86 rfl w.heap.size 87 i0 _ 2 24 Tryd.underlying86 hi hz0 hz1 hz2 rfl (by decide) _ _ _ rfl (World.ownsRow.alloc hob _) ⟨wo.heap.size, 0, none⟩ 1 1 [.int .u64 (x : Int), .string ⟨#[]⟩] rfl rfl (cell_two_new _ _ _ _) (two_one _ _) (by unfold maxLen; omega) (by omega) (Nat.le_trans hB.size (by simp)) ?_; intro v7 w7 hob7 hg7 hnil7 hloc7) | fail)
          go_roundw
          case rel =>
            refine ⟨k + 1, p + wd s[k], vs ++ [⟨x, noS⟩], by rw [HSZ.out]; omega, by go_num, by go_num, by omega, by simp [hvl], ?_, (hB.alloc hB.size _).grown hg7 (Nat.le_trans hB.size (by simp)) (ownr_lo hob), Lib.hid (by rw [hlo.out, HST.out, List.append_assoc]; rfl)⟩
            rw [OwnR, vcells_append, List.length_append]
            exact hob7
          case measure => simp [intOf]; omega
      · have hkI : ¬ (k : Int) < (s.size : Int) := by omega
        obtain rfl : k = s.size := by omega
        have hvs : loose s.data.toList l 0 = vs := by
          rw [hlo.out, List.drop_of_length_le (by rw [HSZ.out]; exact Nat.le_refl _), loose, List.append_nil]
        have hvals : IsVals wo u6 vs := row_vals hob (by unfold maxLen; omega) (by rw [← hvs]; exact loose_bound _ _ _)
        have hOK := @rdec_ok s.data.toList l
        have hERR := @rdec_err s.data.toList l hsh
        rw [hvs] at hOK hERR
        clear hlo hvs hibo
        go_wp2_with fail
        refine (rencode_any s u6 vs wo hs hvals).mono ?_
        rintro e w5 ⟨v5, rfl, hob5, hb5⟩
        have hB5 : Below w.heap.size w w5 := hB.trans (hb5.mono hB.size)
        have hob6 : OwnR w5 w.heap.size u6 vs := World.ownsRow.kept hob (row := none) (grown_below hb5) (by cases u6.ownBlock <;> simp)
        by_cases h0 : (enc s.data.toList vs).2 = 0
        · obtain ⟨a5, cap5, rfl, _, _, hib5⟩ := own_isB hob5
          rw [h0]
          have kc1 := conv_bytes cap5 hib5 9 Tryd.underlying9
          have kc2 := conv_bytes cap (hib.kept (w' := w5) fun b o hb => hB5.cell (p := ⟨b, o, none⟩) hb) 9 Tryd.underlying9
          have HE : (enc s.data.toList vs) = ((enc s.data.toList vs).1, 0) := by rw [← h0]
          have HH0 := Lib.hid h0
          clear h0
          by_cases ho : (enc s.data.toList vs).1 = l
          · rw [ho] at HE kc1
            have HT := Lib.hid (hOK HE)
            clear HE hERR hOK hib5 hob5
            go_wp2_with fail
            go_ret2
            rw [HT.out]
            exact ⟨_, rfl, hob6, hB5⟩
          · have HT := Lib.hid (hERR (fun h => ho (by rw [h])))
            clear HE hERR hOK hib5 hob5 HH0
            generalize (enc s.data.toList vs).1 = o at *
            have hoB : (o == l) = false := by simpa using ho
            go_wp2_with fail
            go_ret2
            rw [HT.out]
            exact ⟨_, rfl, ownr_nil _ _, hB5⟩
        · have hne : ((enc s.data.toList vs).2 != 0) = true := by simpa using h0
          have HT := Lib.hid (hERR (fun h => h0 (by rw [h])))
          clear hOK hERR h0
          go_wp2_with fail
          go_ret2
          rw [HT.out]
          exact ⟨_, rfl, ownr_nil _ _, hB5⟩
end Go.Proofs.YtajnaiofagppeaaDoor.CodeMem
