/- What the reference's Encode answers. -/
import Derived.Test.YtajnaiofagppeaaDoorCodeEnc
import Derived.Lib.ConvBytes
namespace Go.Proofs.YtajnaiofagppeaaDoor.CodeMem
open Go.RowKit CodeSpec Flat Go.Proofs.YtajnaiofagppeaaDoorW.PrintLast
set_option linter.unusedSimpArgs false
set_option linter.unusedVariables false
set_option maxRecDepth 100000

/-- A slice appended, in a region that draws its order. -/
theorem append_slice_ {P : Program} {ops : Array Oper} {Q : Exit → Act → World → Prop} {oi : Oper} {N : Option Tmp} {a : Act} {w : World} {K : Act → World → Prop} (hw : Region.wanted oi (yielded ops a.tmps) = true) (hN : oi.dst = N)
    (s x : Operand) (t : TypeId) (ho : oi.op = .call { callee := .builtin .append, args := #[s, x], argTypes := #[t, t] })
    (base : Nat) (e : TypeId) (i : TypeInfo) (z : Value) (size bytes : Nat) (ht : P.underlying t = some (.slice e)) (hi : P.info? e = some i) (hz : i.zero = some z)
    (hsize : i.size = size) (hby : i.bytes = bytes) (hzs : z.cells.size = size) (hsz : 0 < size)
    (v : Value) (n : Nat) (xs : List Value) (hs : a.eval s = v) (hown : w.ownsRow base e size v n xs)
    (ad : Addr) (m c : Nat) (news : List Value) (hx : a.eval x = .slice (some ad) m c) (hl : news.length = m * size) (hnews : ∀ j u, news[j]? = some u → w.cell? (ad.add j) = some u) (h1 : ∀ u ∈ news, u.oneCell' = true)
    (h63 : n + m ≤ maxLen) (hbytes : (n + m) * bytes ≤ 140737488355328) (hbase : base ≤ w.heap.size)
    (h : ∀ v' w', w'.ownsRow base e size v' (n + m) (xs ++ news) → w.grownBy w' v.ownBlock → K (a.put N v') w') :
    if Region.wanted oi (yielded ops a.tmps) = true then Oper.wp P oi a w K Q else K (a.put N undef) w := by
  rw [if_pos hw]
  subst hN
  obtain ⟨v', w', hr, h2, h3, h4, h5⟩ := run_append_own_at (P := P) w base t oi.type e i z size bytes ht hi hz hsize hby hzs hsz v n xs hown ad m c news hl hnews h1 h63 hbytes hbase
  unfold Oper.wp execOp
  simp only [ho, resolve, invoke, builtin, Sem.run_bind, Sem.run_pure, Result.andThen_ok, List.map_toArray, List.map_cons, List.map_nil, hs, hx, hr]
  exact h v' w' h2 h3

theorem bcells_one (l : List UInt8) : ∀ u ∈ bcells l, u.oneCell' = true := by
  intro u hu
  obtain ⟨c, _, rfl⟩ := List.mem_map.mp hu
  rfl
/-- Bytes of the call's own, read. -/
theorem own_read {w : World} {B : Nat} {v : Value} {l : List UInt8} (h : OwnB w B v l) (hl : 0 < l.length) :
    ∃ g cap, v = .slice (some ⟨g, 0, none⟩) l.length cap ∧ B ≤ g ∧ g < w.heap.size ∧ ∀ j u, (bcells l)[j]? = some u → w.cell? ((⟨g, 0, none⟩ : Addr).add j) = some u := by
  have hlt := h.lt
  have hc := fun g => World.ownsRow.cells (g := g) h
  rcases h.2 with ⟨h1, h2⟩ | ⟨g, cap, cur, h1, _⟩
  · omega
  · subst h1
    exact ⟨g, cap, rfl, (hlt g rfl).1, (hlt g rfl).2, hc g rfl⟩
theorem grown_below {w w' : World} {row : Option Nat} (h : Below w.heap.size w w') : w.grownBy w' row := ⟨h.os, h.tape, h.output, h.size, fun i hi _ => h.block i hi⟩

theorem rnumber_pos (w : World) (n wd : Nat) (ni wi : Int) (hni : ni = n) (hwi : wi = wd) (hn : n < 18446744073709551616) (hw : wd ≤ 8) (hp : 0 < wd) :
    Calls Tryd.prog 61 #[.int .u64 ni, .int .i64 wi] w fun e w' => ∃ g cap, e = .returned (.slice (some ⟨g, 0, none⟩) wd cap) ∧ w.heap.size ≤ g ∧ g < w'.heap.size ∧
      (∀ j u, (bcells (be wd n))[j]? = some u → w'.cell? ((⟨g, 0, none⟩ : Addr).add j) = some u) ∧ Below w.heap.size w w' := by
  refine (rnumber_any w n wd ni wi hni hwi hn hw).mono ?_
  rintro e w' ⟨v, rfl, ho, hb⟩
  obtain ⟨g, cap, hv, h1, h2, h3⟩ := own_read ho (by rw [length_be]; exact hp)
  rw [length_be] at hv
  exact ⟨g, cap, by rw [hv], h1, h2, h3, hb⟩
theorem wd_pos {c : UInt8} (h : c ≠ 116) : 0 < wd c := by
  unfold wd
  rw [if_neg h]
  (repeat' split) <;> decide
theorem own_below {w w' : World} {B : Nat} {v : Value} {l : List UInt8} (h : OwnB w B v l) (hb : Below w.heap.size w w') : OwnB w' B v l :=
  World.ownsRow.kept h (row := none) (grown_below hb) (by cases v.ownBlock <;> simp)

theorem bytes_news (w : World) (s : ByteArray) : ∀ j u, (bcells s.data.toList)[j]? = some u → (Go.Lib.bytesWorld w 5 s).cell? ((⟨w.heap.size, 0, none⟩ : Addr).add j) = some u := by
  intro j u h
  have hj : j < s.size := by
    have := (List.getElem?_eq_some_iff.mp h).1
    rw [bcells_length, size_toList] at this
    exact this
  have e : ((⟨w.heap.size, 0, none⟩ : Addr).add j) = ⟨w.heap.size, j, none⟩ := by
    unfold Addr.add
    split <;> simp_all
  rw [e, Go.Lib.bytesWorld_cell w 5 s j hj]
  rw [bcells, List.getElem?_map, List.getElem?_eq_getElem (by rw [size_toList]; exact hj)] at h
  rw [List.getD, List.getElem?_eq_getElem (by rw [size_toList]; exact hj)]
  exact h
theorem bytes_below (w : World) (e : TypeId) (s : ByteArray) : Below w.heap.size w (Go.Lib.bytesWorld w e s) :=
  ⟨rfl, rfl, rfl, by rw [Go.Lib.bytesWorld_size]; omega, fun k hk => Go.Lib.bytesWorld_at_old w e s k hk⟩

set_option maxRecDepth 100000 in
set_option maxHeartbeats 2000000 in
theorem rencode_any (s : ByteArray) (v : Value) (vs : List V) (w : World) (hs : s.size ≤ maxLen) (hv : IsVals w v vs) :
    Calls Tryd.prog 31 #[.string s, v] w (EncPost (enc s.data.toList vs) w) := by
  obtain ⟨a, cap, rfl, hmax, hall, hcells⟩ := hv
  have hsz := size_toList s
  have hm := hmax
  unfold maxLen at hm
  have hsm := hs
  unfold maxLen at hsm
  cases hsh : shapeB s.data.toList with
  | false =>
    have hT : enc s.data.toList vs = ([], 2) := by simp [enc, hsh]
    rw [hT]
    clear hT
    go_enter Tryd.func31, Tryd.ntmps31
    go_wp2_with fail
    refine (rshape_any s _ hs).mono ?_
    rw [hsh]
    rintro e w1 ⟨rfl, rfl⟩
    go_wp2_with fail
    go_ret2
    exact ⟨_, rfl, own_nil _ _, Below.refl _ _⟩
  | true =>
    by_cases hlen : vs.length = s.size
    · obtain ⟨i0, hi, hz0, hz1, hz2⟩ := info_parts info5
      have hlI : (vs.length : Int) = (s.size : Int) := by omega
      have hlb : ((vs.length : Int) != (s.size : Int)) = false := by simp; omega
      have H100 : s.size ≤ 100 := by
        unfold shapeB at hsh
        simp only [Bool.and_eq_true, decide_eq_true_eq] at hsh
        omega
      have HLET : ∀ k (h : k < s.data.toList.length), letter (s.data.toList[k]) = true := fun k h => by
        unfold shapeB at hsh
        simp only [Bool.and_eq_true, List.all_eq_true] at hsh
        exact hsh.1 _ (List.getElem_mem _)
      have HL := Lib.hid HLET
      have HLEN := Lib.hid hlen
      clear HLET hlen hlI
      go_enter Tryd.func31, Tryd.ntmps31
      go_wp2_with fail
      refine (rshape_any s _ hs).mono ?_
      rw [hsh]
      rintro e w1 ⟨rfl, rfl⟩
      go_wp2_with fail
      go_loopw [6, 7] (fun b i wr => RelE w s.data.toList vs b i wr) (fun _ i _ => vs.length - (intOf i).toNat)
      case atStart => exact ⟨0, [], Nat.zero_le _, rfl, own_nil _ _, Below.refl _ _, by simp, by simp⟩
      case round =>
        obtain ⟨wo, h_wo⟩ : ∃ v : World, v = wr := ⟨_, rfl⟩; subst h_wo
        obtain ⟨k, out, hk, rfl, hob, hB, hol, hE⟩ := hrel
        have HE := Lib.hid hE
        clear hE
        by_cases hkl : k < vs.length
        · obtain ⟨b0, off, hab, hbw, hcs⟩ := hcells (by omega)
          subst hab
          obtain ⟨d0, d1⟩ := hcs k hkl
          have hks : k < s.size := by have := HLEN.out; omega
          have hkt : k < s.data.toList.length := by rw [hsz]; exact hks
          have hlet := HL.out k hkt
          obtain ⟨hn64, hsx⟩ := hall _ (List.getElem_mem hkl)
          rw [← hB.cell (p := ⟨b0, _, none⟩) hbw] at d0 d1
          have hstep := encL_drop hkt hkl
          clear hcs hcells hall
          generalize vs[k] = x at *
          have hck : s.data.toList[k] = s[k] := rfl
          rw [hck] at hlet hstep
          have hkI : (k : Int) < (vs.length : Int) := by omega
          have hkS : (k : Int) < (s.size : Int) := by omega
          have hbr : b0 < wo.heap.size := Nat.lt_of_lt_of_le hbw hB.size
          clear hck
          obtain ⟨n, t⟩ := x
          simp only at d0 d1 hn64 hsx
          have HS := Lib.hid hstep
          clear hstep
          have HLT := Lib.hid hlet
          clear hlet
          go_upto_if 32 with (fail)
          go_cut [32] (fun v wx => v = .bool (!fits s[k] ⟨n, t⟩) ∧ Below wo.heap.size wo wx)
          case first =>
            refine start_ (n := 9) (S := fun w' => w'.cell? ⟨b0, off + k * 2, none⟩ = some (.int .u64 (n : Int)) ∧ w'.cell? ⟨b0, off + k * 2 + 1, none⟩ = some (.string t)) (ds := []) #[false, false, false, false, false, false, false, false, false] (by kernel_rfl) rfl rfl ⟨d0, d1⟩ (fun hHeld => ?_)
            refine pure_ (i := 0) (N := some 24) (v := ?_) (a' := ?_) #[true, false, false, false, false, false, false, false, false] rfl rfl (by kernel_rfl) (fun _ _ _ h => h) (Or.inl ⟨by rfl, ?_⟩) ?_ ?_
            rotate_left
            · intro w'
              go_simp
              with_reducible rfl
            rotate_left
            · simp only [Act.put, List.setIfInBounds_toArray, List.set_cons_zero, List.set_cons_succ, i64_w, i32_w]
              rfl
            refine pure_ (i := 1) (N := some 25) (v := ?_) (a' := ?_) #[true, true, false, false, false, false, false, false, false] rfl rfl (by kernel_rfl) (fun _ _ _ h => h) (Or.inl ⟨by rfl, ?_⟩) ?_ ?_
            rotate_left
            · intro w'
              go_simp
              with_reducible rfl
            rotate_left
            · simp only [Act.put, List.setIfInBounds_toArray, List.set_cons_zero, List.set_cons_succ, i64_w, i32_w]
              rfl
            refine pure_ (i := 3) (N := some 27) (v := ?_) (a' := ?_) #[true, true, false, true, false, false, false, false, false] rfl rfl (by kernel_rfl) (fun _ _ _ h => h) (Or.inl ⟨by rfl, ?_⟩) ?_ ?_
            rotate_left
            · intro w'
              go_simp
              with_reducible rfl
            rotate_left
            · simp only [Act.put, List.setIfInBounds_toArray, List.set_cons_zero, List.set_cons_succ, i64_w, i32_w]
              rfl
            refine pure_ (i := 4) (N := some 28) (v := ?_) (a' := ?_) #[true, true, false, true, true, false, false, false, false] rfl rfl (by kernel_rfl) (fun _ _ _ h => h) (Or.inl ⟨by rfl, ?_⟩) ?_ ?_
            rotate_left
            · intro w'
              go_simp
              with_reducible rfl
            rotate_left
            · simp only [Act.put, List.setIfInBounds_toArray, List.set_cons_zero, List.set_cons_succ, i64_w, i32_w]
              rfl
            refine pure_ (i := 5) (N := some 29) (v := ?_) (a' := ?_) #[true, true, false, true, true, true, false, false, false] rfl rfl (by kernel_rfl) (fun _ _ _ h => h) (Or.inl ⟨by rfl, ?_⟩) ?_ ?_
            rotate_left
            · intro w'
              go_simp
              with_reducible rfl
            rotate_left
            · simp only [Act.put, List.setIfInBounds_toArray, List.set_cons_zero, List.set_cons_succ, i64_w, i32_w]
              rfl
            refine take_ (i := 2) (N := some 26) (v := ?_) (a' := ?_) #[true, true, true, true, true, true, false, false, false] rfl rfl (by kernel_rfl) (fun _ _ _ h => h) (Or.inl ⟨by rfl, ?_⟩) hHeld ?_ ?_
            rotate_left
            · rintro w' ⟨s0, s1⟩
              go_simp
              with_reducible rfl
            rotate_left
            · simp only [Act.put, List.setIfInBounds_toArray, List.set_cons_zero, List.set_cons_succ, i64_w, i32_w]
              rfl
            refine take_ (i := 6) (N := some 30) (v := ?_) (a' := ?_) #[true, true, true, true, true, true, true, false, false] rfl rfl (by kernel_rfl) (fun _ _ _ h => h) (Or.inl ⟨by rfl, ?_⟩) hHeld ?_ ?_
            rotate_left
            · rintro w' ⟨s0, s1⟩
              go_simp
              with_reducible rfl
            rotate_left
            · simp only [Act.put, List.setIfInBounds_toArray, List.set_cons_zero, List.set_cons_succ, i64_w, i32_w]
              rfl
            refine one_ (i := 7) (N := some 31) #[true, true, true, true, true, true, true, true, false] rfl rfl (by kernel_rfl) (by decide) (fun K hK => ?_)
            refine goes_ Tryd.func60 (by kernel_rfl) rfl #[.int .u8 s[k].toNat, .agg #[.int .u64 (n : Int), .string t]] (by rfl) rfl rfl (by simp only [List.map_toArray, List.map_cons, List.map_nil]; rfl) ?_
            refine (rfits_any s[k] n t _ HLT.out hn64 hsx).mono ?_
            rintro e w3 ⟨rfl, hb3⟩
            refine ⟨_, rfl, ?_⟩
            refine hK.out _ _ ⟨(hb3.cell (p := ⟨b0, off + k * 2, none⟩) hbr).trans d0, (hb3.cell (p := ⟨b0, off + k * 2 + 1, none⟩) hbr).trans d1⟩ (fun hHeld => ?_)
            clear hK K
            refine norm_ (a' := ?_) ?_ ?_
            rotate_left
            · show Act.put _ (some 31) _ = _
              simp only [Act.put, List.setIfInBounds_toArray, List.set_cons_zero, List.set_cons_succ, i64_w, i32_w]
              rfl
            refine pure_ (i := 8) (N := some 32) (v := ?_) (a' := ?_) #[true, true, true, true, true, true, true, true, true] rfl rfl (by kernel_rfl) (fun _ _ _ h => h) (Or.inl ⟨by rfl, ?_⟩) ?_ ?_
            rotate_left
            · intro w'
              go_simp
              with_reducible rfl
            rotate_left
            · simp only [Act.put, List.setIfInBounds_toArray, List.set_cons_zero, List.set_cons_succ, i64_w, i32_w]
              rfl
            refine done_ (by kernel_rfl) ?_

            go_wp2_with fail
            go_meet
            exact ⟨rfl, (Below.refl _ wo).drew.trans hb3⟩
          case rest =>
            obtain ⟨wi, h_wi⟩ : ∃ v : World, v = wc := ⟨_, rfl⟩; subst h_wi
            obtain ⟨rfl, hBi⟩ := hcut
            rw [← hBi.cell (p := ⟨b0, _, none⟩) hbr] at d0 d1
            have hBw : Below w.heap.size w wi := hB.trans (hBi.mono hB.size)
            have hobi : OwnB wi w.heap.size u6 out := own_below hob hBi
            have hbri := Nat.lt_of_lt_of_le hbr hBi.size
            clear hBi hob hB hbr
            cases hF : fits s[k] ⟨n, t⟩ with
            | false =>
              have HT := Lib.hid (enc_none hsh (encL_fail HE.out HS.out hF))
              clear hF
              go_wp2_with fail
              go_ret2
              rw [HT.out]
              exact ⟨_, rfl, own_nil _ _, hBw⟩
            | true =>
              have HE2 := Lib.hid (encL_step HE.out HS.out hF)
              by_cases h6 : s[k] = 116
              · have hts : n = 0 ∧ t.size ≤ 2000 := by
                  rw [h6] at hF
                  unfold fits at hF
                  rw [if_pos rfl] at hF
                  simpa using hF
                obtain ⟨rfl, hts⟩ := hts
                have h6I : ((s[k].toNat : Int) == 116) = true := by rw [h6]; rfl
                have HONE : Hid (one s[k] ⟨0, t⟩ = be 2 t.size ++ t.data.toList) := Lib.hid (by rw [one, if_pos h6])
                have HFF := Lib.hid hF
                clear hF h6
                have htI : (t.size : Int) ≤ 2000 := by omega
                have kc := fun w => Go.Lib.run_convert_string_bytes (P := Tryd.prog) w 9 81 5 t Tryd.underlying9 Tryd.underlying81 Tryd.underlying5
                go_upto_region 11 with (first | (go_at_call 61; refine (rnumber_pos _ t.size 2 _ _ rfl rfl (by omega) (by omega) (by omega)).mono ?_; rintro e w5 ⟨g5, cap5, rfl, hg5, hg5', hnews, hb5⟩) | (at_builtin; refine wpList_append_own_at _ rfl _ _ 81 rfl w.heap.size 5 i0 (.int .u8 0) 1 1 Tryd.underlying81 hi hz0 hz1 hz2 rfl (by decide) _ _ _ rfl (own_below hobi hb5) ⟨g5, 0, none⟩ 2 cap5 _ rfl (by rw [bcells_length, length_be]) hnews (bcells_one _) (by unfold maxLen; omega) (by omega) (Nat.le_trans hBw.size hb5.size) ?_; intro v6 w6 hob6 hg6 hnil6 hloc6) | fail)
                have hB5 : Below w.heap.size w w5 := hBw.trans (hb5.mono hBw.size)
                have hB6 := hB5.grown hg6 hB5.size (own_lo hobi)
                have hob6' : OwnB w6 w.heap.size v6 (out ++ be 2 t.size) := by
                  rw [OwnB, bcells_append, List.length_append, length_be]
                  exact hob6
                have d6 : w6.cell? ⟨b0, off + k * 2 + 1, none⟩ = some (.string t) :=
                  (hg6.cell_far ⟨b0, off + k * 2 + 1, none⟩ (Nat.lt_of_lt_of_le hbri hb5.size) (by intro h; have := own_lo hobi b0 h.symm; omega)).trans ((hb5.cell (p := ⟨b0, off + k * 2 + 1, none⟩) hbri).trans d1)
                clear hob6 hg6 hb5 hnews hnil6 hloc6 d0 d1
                go_wp2_with (first | (at_builtin; refine wpList_append_own_at _ rfl _ _ 81 rfl w.heap.size 5 i0 (.int .u8 0) 1 1 Tryd.underlying81 hi hz0 hz1 hz2 rfl (by decide) _ _ _ rfl (own_below hob6' (bytes_below w6 5 t)) ⟨w6.heap.size, 0, none⟩ t.size _ (bcells t.data.toList) rfl (by rw [bcells_length, size_toList, Nat.mul_one]) (bytes_news w6 t) (bcells_one _) (by rw [List.length_append, length_be]; unfold maxLen; omega) (by rw [List.length_append, length_be]; omega) (Nat.le_trans hB6.size (bytes_below w6 5 t).size) ?_; intro v7 w7 hob7 hg7 hnil7 hloc7) | fail)
                go_roundw
                case rel =>
                  have hB7 := hB6.trans ((bytes_below w6 5 t).mono hB6.size)
                  refine ⟨k + 1, out ++ one s[k] ⟨0, t⟩, by omega, by go_num, ?_, hB7.grown hg7 hB7.size (own_lo hob6'), ?_, HE2.out⟩
                  · rw [HONE.out, ← List.append_assoc, OwnB, bcells_append, List.length_append, size_toList]
                    exact hob7
                  · rw [HONE.out, List.length_append, List.length_append, length_be, size_toList]
                    omega
                case measure => simp [intOf]; omega
              · have h6I : ((s[k].toNat : Int) == 116) = false := toNat_ne (n := 116) (by decide) h6
                have HH6 := Lib.hid h6
                have HFF := Lib.hid hF
                clear h6 hF
                obtain ⟨hw1, hw8⟩ := wd_letter HLT.out HH6.out
                have hwp := wd_pos HH6.out
                have HONE : Hid (one s[k] ⟨n, t⟩ = be (wd s[k]) n) := Lib.hid (by rw [one, if_neg HH6.out])
                have HW1 := Lib.hid hw1
                clear hw1
                go_wp2_with fail
                refine start_ (n := 13) (S := fun w' => w'.cell? ⟨b0, off + k * 2, none⟩ = some (.int .u64 (n : Int))) (ds := [11]) #[false, false, false, false, false, false, false, false, false, false, false, false, false] (by kernel_rfl) rfl rfl (d0) (fun hHeld => ?_)
                refine pure_ (i := 0) (N := some 55) (v := ?_) (a' := ?_) #[true, false, false, false, false, false, false, false, false, false, false, false, false] rfl rfl (by kernel_rfl) (fun _ _ _ h => h) (Or.inl ⟨by rfl, ?_⟩) ?_ ?_
                rotate_left
                · intro w'
                  go_simp
                  with_reducible rfl
                rotate_left
                · simp only [Act.put, List.setIfInBounds_toArray, List.set_cons_zero, List.set_cons_succ, i64_w, i32_w]
                  rfl
                refine pure_ (i := 1) (N := some 56) (v := ?_) (a' := ?_) #[true, true, false, false, false, false, false, false, false, false, false, false, false] rfl rfl (by kernel_rfl) (fun _ _ _ h => h) (Or.inl ⟨by rfl, ?_⟩) ?_ ?_
                rotate_left
                · intro w'
                  go_simp
                  with_reducible rfl
                rotate_left
                · simp only [Act.put, List.setIfInBounds_toArray, List.set_cons_zero, List.set_cons_succ, i64_w, i32_w]
                  rfl
                refine pure_ (i := 2) (N := some 57) (v := ?_) (a' := ?_) #[true, true, true, false, false, false, false, false, false, false, false, false, false] rfl rfl (by kernel_rfl) (fun _ _ _ h => h) (Or.inl ⟨by rfl, ?_⟩) ?_ ?_
                rotate_left
                · intro w'
                  go_simp
                  with_reducible rfl
                rotate_left
                · simp only [Act.put, List.setIfInBounds_toArray, List.set_cons_zero, List.set_cons_succ, i64_w, i32_w]
                  rfl
                refine pure_ (i := 3) (N := some 58) (v := ?_) (a' := ?_) #[true, true, true, true, false, false, false, false, false, false, false, false, false] rfl rfl (by kernel_rfl) (fun _ _ _ h => h) (Or.inl ⟨by rfl, ?_⟩) ?_ ?_
                rotate_left
                · intro w'
                  go_simp
                  with_reducible rfl
                rotate_left
                · simp only [Act.put, List.setIfInBounds_toArray, List.set_cons_zero, List.set_cons_succ, i64_w, i32_w]
                  rfl
                refine pure_ (i := 4) (N := some 59) (v := ?_) (a' := ?_) #[true, true, true, true, true, false, false, false, false, false, false, false, false] rfl rfl (by kernel_rfl) (fun _ _ _ h => h) (Or.inl ⟨by rfl, ?_⟩) ?_ ?_
                rotate_left
                · intro w'
                  go_simp
                  with_reducible rfl
                rotate_left
                · simp only [Act.put, List.setIfInBounds_toArray, List.set_cons_zero, List.set_cons_succ, i64_w, i32_w]
                  rfl
                refine pure_ (i := 6) (N := some 61) (v := ?_) (a' := ?_) #[true, true, true, true, true, false, true, false, false, false, false, false, false] rfl rfl (by kernel_rfl) (fun _ _ _ h => h) (Or.inl ⟨by rfl, ?_⟩) ?_ ?_
                rotate_left
                · intro w'
                  go_simp
                  with_reducible rfl
                rotate_left
                · simp only [Act.put, List.setIfInBounds_toArray, List.set_cons_zero, List.set_cons_succ, i64_w, i32_w]
                  rfl
                refine pure_ (i := 7) (N := some 62) (v := ?_) (a' := ?_) #[true, true, true, true, true, false, true, true, false, false, false, false, false] rfl rfl (by kernel_rfl) (fun _ _ _ h => h) (Or.inl ⟨by rfl, ?_⟩) ?_ ?_
                rotate_left
                · intro w'
                  go_simp
                  with_reducible rfl
                rotate_left
                · simp only [Act.put, List.setIfInBounds_toArray, List.set_cons_zero, List.set_cons_succ, i64_w, i32_w]
                  rfl
                refine take_ (i := 5) (N := some 60) (v := ?_) (a' := ?_) #[true, true, true, true, true, true, true, true, false, false, false, false, false] rfl rfl (by kernel_rfl) (fun _ _ _ h => h) (Or.inl ⟨by rfl, ?_⟩) hHeld ?_ ?_
                rotate_left
                · intro w' s0
                  go_simp
                  with_reducible rfl
                rotate_left
                · simp only [Act.put, List.setIfInBounds_toArray, List.set_cons_zero, List.set_cons_succ, i64_w, i32_w]
                  rfl
                refine take_ (i := 8) (N := some 63) (v := ?_) (a' := ?_) #[true, true, true, true, true, true, true, true, true, false, false, false, false] rfl rfl (by kernel_rfl) (fun _ _ _ h => h) (Or.inl ⟨by rfl, ?_⟩) hHeld ?_ ?_
                rotate_left
                · intro w' s0
                  go_simp
                  with_reducible rfl
                rotate_left
                · simp only [Act.put, List.setIfInBounds_toArray, List.set_cons_zero, List.set_cons_succ, i64_w, i32_w]
                  rfl
                refine one_ (i := 9) (N := some 64) #[true, true, true, true, true, true, true, true, true, true, false, false, false] rfl rfl (by kernel_rfl) (by decide) (fun K hK => ?_)
                refine goes_ Tryd.func62 (by kernel_rfl) rfl #[.int .u8 s[k].toNat] (by rfl) rfl rfl (by simp only [List.map_toArray, List.map_cons, List.map_nil]; rfl) ?_
                refine (rwidth_any s[k] _).mono ?_
                rintro e w3 ⟨rfl, rfl⟩
                refine ⟨_, rfl, ?_⟩
                refine hK.out _ _ (d0) (fun hHeld => ?_)
                clear hK K
                refine norm_ (a' := ?_) ?_ ?_
                rotate_left
                · show Act.put _ (some 64) _ = _
                  simp only [Act.put, List.setIfInBounds_toArray, List.set_cons_zero, List.set_cons_succ, i64_w, i32_w]
                  rfl
                refine one_ (i := 10) (N := some 65) #[true, true, true, true, true, true, true, true, true, true, true, false, false] rfl rfl (by kernel_rfl) (by decide) (fun K hK => ?_)
                refine goes_ Tryd.func61 (by kernel_rfl) rfl #[.int .u64 (n : Int), .int .i64 (rwd s[k])] (by rfl) rfl rfl (by simp only [List.map_toArray, List.map_cons, List.map_nil]; rfl) ?_
                refine (rnumber_pos _ n (wd s[k]) _ _ rfl (by rw [HW1.out]) hn64 hw8 hwp).mono ?_
                rintro e w5 ⟨g5, cap5, rfl, hg5, hg5', hnews, hb5⟩
                refine ⟨_, rfl, ?_⟩
                refine hK.out _ _ ((hb5.cell (p := ⟨b0, off + k * 2, none⟩) hbri).trans d0) (fun hHeld => ?_)
                clear hK K
                refine norm_ (a' := ?_) ?_ ?_
                rotate_left
                · show Act.put _ (some 65) _ = _
                  simp only [Act.put, List.setIfInBounds_toArray, List.set_cons_zero, List.set_cons_succ, i64_w, i32_w]
                  rfl
                refine last_ (i := 11) (N := some 66) #[true, true, true, true, true, true, true, true, true, true, true, true, false] rfl rfl (by kernel_rfl) (by decide) (fun K hK => ?_)
                refine append_slice_ (by rfl) rfl (.tmp 55) (.tmp 65) 81 rfl w.heap.size 5 i0 (.int .u8 0) 1 1 Tryd.underlying81 hi hz0 hz1 hz2 rfl (by decide) u6 _ _ (by rfl) (own_below (w := wi.drew) (World.ownsRow.drew hobi) hb5) ⟨g5, 0, none⟩ _ cap5 _ (by rfl) (by rw [bcells_length, length_be, Nat.mul_one]) hnews (bcells_one _) (by unfold maxLen; omega) (by omega) (Nat.le_trans hBw.drew.size hb5.size) ?_
                intro v6 w6 hob6 hg6
                refine hK.out _ _ ?_
                clear hK K
                refine norm_ (a' := ?_) ?_ ?_
                rotate_left
                · show Act.put _ (some 66) _ = _
                  simp only [Act.put, List.setIfInBounds_toArray, List.set_cons_zero, List.set_cons_succ, i64_w, i32_w]
                  rfl
                refine pure_ (i := 12) (N := some 6) (v := ?_) (a' := ?_) #[true, true, true, true, true, true, true, true, true, true, true, true, true] rfl rfl (by kernel_rfl) (fun _ _ _ h => h) (Or.inl ⟨by rfl, ?_⟩) ?_ ?_
                rotate_left
                · intro w'
                  go_simp
                  with_reducible rfl
                rotate_left
                · simp only [Act.put, List.setIfInBounds_toArray, List.set_cons_zero, List.set_cons_succ, i64_w, i32_w]
                  rfl
                refine done_ (by kernel_rfl) ?_

                go_wp2
                go_roundw
                case rel =>
                  have hB5 : Below w.heap.size w w5 := hBw.drew.trans (hb5.mono hBw.drew.size)
                  refine ⟨k + 1, out ++ one s[k] ⟨n, t⟩, by omega, by go_num, ?_, hB5.grown hg6 hB5.size (own_lo hobi), ?_, HE2.out⟩
                  · rw [HONE.out, OwnB, bcells_append, List.length_append, length_be]
                    exact hob6
                  · rw [HONE.out, List.length_append, length_be]
                    omega
                case measure => simp [intOf]; omega
        · obtain rfl : k = vs.length := by omega
          have hdone : encL s.data.toList vs = some out := by
            rw [HE.out, List.drop_of_length_le (by rw [hsz]; have := HLEN.out; omega), List.drop_of_length_le (Nat.le_refl _)]
            simp [encL]
          have HT := Lib.hid (enc_some hsh hdone)
          clear hdone
          obtain ⟨lb, cb, hvb⟩ := own_slice hob
          subst hvb
          have hlo : (out.length : Int) ≤ 2002 * 100 := by have := HLEN.out; omega
          by_cases h4 : 4000 < out.length
          · have h4I : (4000 : Int) < (out.length : Int) := by omega
            rw [if_pos h4] at HT
            go_wp2_with fail
            go_ret2
            rw [HT.out]
            exact ⟨_, rfl, own_nil _ _, hB⟩
          · have h4I : ¬ (4000 : Int) < (out.length : Int) := by omega
            rw [if_neg h4] at HT
            go_wp2_with fail
            go_ret2
            rw [HT.out]
            exact ⟨_, rfl, hob, hB⟩
    · have hT : enc s.data.toList vs = ([], 2) := by
        unfold enc
        rw [if_neg (by simp [hsh]), if_pos (by rw [hsz]; exact hlen)]
      rw [hT]
      have hne : ((vs.length : Int) != (s.size : Int)) = true := by simp; omega
      clear hT
      go_enter Tryd.func31, Tryd.ntmps31
      go_wp2_with fail
      refine (rshape_any s _ hs).mono ?_
      rw [hsh]
      rintro e w1 ⟨rfl, rfl⟩
      go_wp2_with fail
      go_ret2
      exact ⟨_, rfl, own_nil _ _, Below.refl _ _⟩
end Go.Proofs.YtajnaiofagppeaaDoor.CodeMem
