/- What the program's Encode answers. -/
import Derived.Test.YtajnaiofagppeaaDoorCodeRef
import Derived.Deep.DeepCutAuto
import Derived.Deep.CutBlock
import Derived.RegionTactic
import Derived.Deep.RegionWith
import Derived.Deep.AppendLies
import Derived.Test.YtajnaiofagppeaaDoorWLast
namespace Go.Proofs.YtajnaiofagppeaaDoor.CodeMem
open Go.RowKit CodeSpec Flat Go.Proofs.YtajnaiofagppeaaDoorW.PrintLast
set_option linter.unusedSimpArgs false
set_option linter.unusedVariables false
set_option maxRecDepth 100000

/-- v is a slice that reads as these values. -/
def IsVals (w : World) (v : Value) (vs : List V) : Prop :=
  ∃ a cap, v = .slice a vs.length cap ∧ vs.length ≤ maxLen ∧ (∀ x ∈ vs, x.n < 18446744073709551616 ∧ x.s.size ≤ maxLen) ∧
    (0 < vs.length → ∃ b off, a = some ⟨b, off, none⟩ ∧ b < w.heap.size ∧ ∀ i (h : i < vs.length), w.cell? ⟨b, off + i * 2, none⟩ = some (.int .u64 (vs[i].n : Int)) ∧ w.cell? ⟨b, off + i * 2 + 1, none⟩ = some (.string vs[i].s))

theorem encL_drop {sh : List UInt8} {vs : List V} {k : Nat} (h1 : k < sh.length) (h2 : k < vs.length) : encL (sh.drop k) (vs.drop k) = if fits sh[k] vs[k] = true then (encL (sh.drop (k + 1)) (vs.drop (k + 1))).map (one sh[k] vs[k] ++ ·) else none := by
  rw [List.drop_eq_getElem_cons h1, List.drop_eq_getElem_cons h2, encL]
theorem map_map_app (o : Option (List UInt8)) (a b : List UInt8) : (o.map (b ++ ·)).map (a ++ ·) = o.map ((a ++ b) ++ ·) := by
  cases o <;> simp

theorem encL_step {sh : List UInt8} {vs : List V} {out : List UInt8} {E F : Option (List UInt8)} {c : UInt8} {x : V} (h1 : encL sh vs = E.map (out ++ ·)) (h2 : E = if fits c x = true then F.map (one c x ++ ·) else none) (hf : fits c x = true) :
    encL sh vs = F.map ((out ++ one c x) ++ ·) := by
  rw [h1, h2, if_pos hf, map_map_app]
theorem encL_fail {sh : List UInt8} {vs : List V} {out : List UInt8} {E F : Option (List UInt8)} {c : UInt8} {x : V} (h1 : encL sh vs = E.map (out ++ ·)) (h2 : E = if fits c x = true then F.map (one c x ++ ·) else none) (hf : fits c x = false) :
    encL sh vs = none := by
  rw [h1, h2, hf]; rfl
theorem enc_none {sh : List UInt8} {vs : List V} (h1 : shapeB sh = true) (h3 : encL sh vs = none) : enc sh vs = ([], 2) := by
  unfold enc
  rw [if_neg (by simp [h1])]
  split
  · rfl
  · rw [h3]
theorem enc_some {sh : List UInt8} {vs : List V} {o : List UInt8} (h1 : shapeB sh = true) (h3 : encL sh vs = some o) : enc sh vs = if 4000 < o.length then ([], 3) else (o, 0) := by
  unfold enc
  rw [if_neg (by simp [h1]), if_neg (by rw [encL_len _ _ _ h3]; simp), h3]
theorem fits_lt {c : UInt8} {n w : Nat} (hc : c ≠ 116) (hw : wd c = w) (h : n < 256 ^ w) : fits c ⟨n, ⟨#[]⟩⟩ = true := by
  unfold fits
  rw [if_neg hc, hw, decide_eq_true h]
  rfl
theorem fits_ge {c : UInt8} {n w : Nat} (hc : c ≠ 116) (hw : wd c = w) (h : ¬ n < 256 ^ w) : fits c ⟨n, ⟨#[]⟩⟩ = false := by
  unfold fits
  rw [if_neg hc, hw, decide_eq_false h, Bool.and_false]
theorem width_97 (w : World) : Calls Tryd.prog 51 #[.int .u8 97] w fun e w' => e = .returned (.int .i64 1) ∧ w = w' := width_any 97 w rfl
theorem width_98 (w : World) : Calls Tryd.prog 51 #[.int .u8 98] w fun e w' => e = .returned (.int .i64 2) ∧ w = w' := width_any 98 w rfl
theorem width_99 (w : World) : Calls Tryd.prog 51 #[.int .u8 99] w fun e w' => e = .returned (.int .i64 4) ∧ w = w' := width_any 99 w rfl
theorem width_100 (w : World) : Calls Tryd.prog 51 #[.int .u8 100] w fun e w' => e = .returned (.int .i64 8) ∧ w = w' := width_any 100 w rfl
theorem width_116 (w : World) : Calls Tryd.prog 51 #[.int .u8 116] w fun e w' => e = .returned (.int .i64 0) ∧ w = w' := width_any 116 w rfl
theorem number_at (w : World) (B : Nat) (vb : Value) (xs : List UInt8) (n wd : Nat) (ni wi : Int) (hni : ni = n) (hwi : wi = wd) (hn : n < 18446744073709551616) (hw : wd ≤ 8) (hown : OwnB w B vb xs) (hB : B ≤ w.heap.size) (hl : xs.length + wd ≤ 1000000) :
    Calls Tryd.prog 52 #[vb, .int .u64 ni, .int .i64 wi] w fun e w' => ∃ v, e = .returned v ∧ OwnB w' B v (xs ++ be wd n) ∧ w.grownBy w' vb.ownBlock ∧ (v.ownBlock = vb.ownBlock ∨ ∃ k, v.ownBlock = some k ∧ w.heap.size ≤ k) := by
  subst hwi hni; exact number_any w B vb xs n wd hn hw hown hB hl
theorem wrap_u64 (n : Nat) (h : n < 18446744073709551616) : IntKind.u64.wrap (n : Int) = n := by
  simp [IntKind.wrap, IntKind.bits, IntKind.signed]
  omega
theorem own_alloc {w : World} {B : Nat} {v : Value} {l : List UInt8} (h : OwnB w B v l) (o : Obj) : OwnB (w.alloc o) B v l := World.ownsRow.alloc h o
theorem own_slice {w : World} {B : Nat} {v : Value} {l : List UInt8} (h : OwnB w B v l) : ∃ a cap, v = .slice a l.length cap := by
  rcases h.2 with ⟨h1, h2⟩ | ⟨g, cap, cur, h1, _⟩
  · exact ⟨none, 0, by rw [h1, h2]⟩
  · exact ⟨_, _, h1⟩
/-- A string appended, in a region that draws its order. -/
theorem append_string_ {P : Program} {ops : Array Oper} {Q : Exit → Act → World → Prop} {oi : Oper} {N : Option Tmp} {a : Act} {w : World} {K : Act → World → Prop} (hw : Region.wanted oi (yielded ops a.tmps) = true) (hN : oi.dst = N)
    (sl x : Operand) (t u : TypeId) (ho : oi.op = .call { callee := .builtin .append, args := #[sl, x], argTypes := #[t, u] })
    (base : Nat) (e : TypeId) (i : TypeInfo) (ht : P.underlying t = some (.slice e)) (hu : P.underlying u = some .string) (hi : P.info? e = some i) (hz : i.zero = some (.int .u8 0))
    (hsize : i.size = 1) (hby : i.bytes = 1)
    (v : Value) (n : Nat) (xs : List Value) (hs : a.eval sl = v) (hown : w.ownsRow base e 1 v n xs) (s : ByteArray) (hx : a.eval x = .string s)
    (h63 : n + s.size ≤ maxLen) (hbytes : n + s.size ≤ 140737488355328) (hbase : base ≤ w.heap.size)
    (h : ∀ v' w', w'.ownsRow base e 1 v' (n + s.size) (xs ++ Go.Lib.strCells s) → w.grownBy w' v.ownBlock → K (a.put N v') w') :
    if Region.wanted oi (yielded ops a.tmps) = true then Oper.wp P oi a w K Q else K (a.put N undef) w := by
  rw [if_pos hw]
  subst hN
  obtain ⟨v', w', hr, h2, h3, _⟩ := Go.Lib.run_append_own_string (P := P) w base t u oi.type e i ht hu hi hz hsize hby v n xs hown s h63 hbytes hbase
  unfold Oper.wp execOp
  simp only [ho, resolve, invoke, builtin, Sem.run_bind, Sem.run_pure, Result.andThen_ok, List.map_toArray, List.map_cons, List.map_nil, hs, hx, hr]
  exact h v' w' h2 h3

/-- What is known at the head of the loop. -/
def RelE (w : World) (sh : List UInt8) (vs : List V) (b i : Value) (wr : World) : Prop :=
  ∃ (k : Nat) (out : List UInt8), k ≤ vs.length ∧ i = .int .i64 k ∧ OwnB wr w.heap.size b out ∧ Below w.heap.size w wr ∧ out.length ≤ k * 2002 ∧ encL sh vs = (encL (sh.drop k) (vs.drop k)).map (out ++ ·)

def EncPost (T : List UInt8 × Int) (w : World) (e : Ending) (w' : World) : Prop := ∃ v, e = .returned (.tuple #[v, .int .i64 T.2]) ∧ OwnB w' w.heap.size v T.1 ∧ Below w.heap.size w w'
theorem own_nil (w : World) (B : Nat) : OwnB w B (.slice none 0 0) [] := World.ownsRow_nil w B 5 1

set_option maxRecDepth 100000 in
set_option maxHeartbeats 2000000 in
theorem encode_any (s : ByteArray) (v : Value) (vs : List V) (w : World) (hs : s.size ≤ maxLen) (hv : IsVals w v vs) :
    Calls Tryd.prog 27 #[.string s, v] w (EncPost (enc s.data.toList vs) w) := by
  obtain ⟨a, cap, rfl, hmax, hall, hcells⟩ := hv
  have hsz := size_toList s
  have hm := hmax
  unfold maxLen at hm
  have hsm := hs
  unfold maxLen at hsm
  cases hsh : shapeB s.data.toList with
  | false =>
    have hT : enc s.data.toList vs = ([], 2) := by simp [enc, hsh]
    rw [hT]
    clear hT
    go_enter Tryd.func27, Tryd.ntmps27
    go_wp2_with fail
    refine (shaped_any s _ hs).mono ?_
    rw [hsh]
    rintro e w1 ⟨rfl, hb1⟩
    go_wp2_with fail
    go_ret2
    exact ⟨_, rfl, own_nil _ _, hb1⟩
  | true =>
    by_cases hlen : vs.length = s.size
    · obtain ⟨i0, hi, hz0, hz1, hz2⟩ := info_parts info5
      have hlI : (vs.length : Int) = (s.size : Int) := by omega
      have hlb : ((vs.length : Int) != (s.size : Int)) = false := by simp; omega
      have H100 : s.size ≤ 100 := by
        unfold shapeB at hsh
        simp only [Bool.and_eq_true, decide_eq_true_eq] at hsh
        omega
      have HLET : ∀ k (h : k < s.data.toList.length), letter (s.data.toList[k]) = true := fun k h => by
        unfold shapeB at hsh
        simp only [Bool.and_eq_true, List.all_eq_true] at hsh
        exact hsh.1 _ (List.getElem_mem _)
      have HL := Lib.hid HLET
      have HLEN := Lib.hid hlen
      clear HLET hlen hlI
      go_enter Tryd.func27, Tryd.ntmps27
      go_wp2_with fail
      refine (shaped_any s _ hs).mono ?_
      rw [hsh]
      rintro e w1 ⟨rfl, hb1⟩
      go_wp2_with fail
      go_loopw [6, 22] (fun b i wr => RelE w s.data.toList vs b i wr) (fun _ i _ => vs.length - (intOf i).toNat)
      case atStart => exact ⟨0, [], Nat.zero_le _, rfl, own_nil _ _, hb1, by simp, by simp⟩
      case round =>
        obtain ⟨wo, h_wo⟩ : ∃ v : World, v = wr := ⟨_, rfl⟩; subst h_wo
        obtain ⟨k, out, hk, rfl, hob, hB, hol, hE⟩ := hrel
        have HE := Lib.hid hE
        clear hE
        by_cases hkl : k < vs.length
        · obtain ⟨b0, off, hab, hbw, hcs⟩ := hcells (by omega)
          subst hab
          obtain ⟨d0, d1⟩ := hcs k hkl
          have hks : k < s.size := by have := HLEN.out; omega
          have hkt : k < s.data.toList.length := by rw [hsz]; exact hks
          have hlet := HL.out k hkt
          obtain ⟨hn64, hsx⟩ := hall _ (List.getElem_mem hkl)
          rw [← hB.cell (p := ⟨b0, _, none⟩) hbw] at d0 d1
          have hstep := encL_drop hkt hkl
          clear hcs hcells hall
          generalize vs[k] = x at *
          have hck : s.data.toList[k] = s[k] := rfl
          rw [hck] at hlet hstep
          have hkI : (k : Int) < (vs.length : Int) := by omega
          have hbr : b0 < wo.heap.size := Nat.lt_of_lt_of_le hbw hB.size
          have h5 : s[k] = 97 ∨ s[k] = 98 ∨ s[k] = 99 ∨ s[k] = 100 ∨ s[k] = 116 := by simpa only [letter, Bool.or_eq_true, beq_iff_eq, or_assoc] using hlet
          clear hlet hck
          obtain ⟨n, t⟩ := x
          simp only at d0 d1 hn64 hsx
          rcases h5 with h5 | h5 | h5 | h5 | h5
          · rw [h5] at hstep
            have HS := Lib.hid hstep
            clear hstep
            by_cases ht : t.size = 0
            · obtain rfl := size_noS ht
              clear ht
              unfold noS at *
              by_cases hn : n < 256
              · have hnI : ((n : Int) / 256 != 0) = false := by simp; omega
                have hf : fits 97 ⟨n, ⟨#[]⟩⟩ = true := fits_lt (by decide) (show wd 97 = 1 from rfl) (by omega)
                have hE2 := encL_step HE.out HS.out hf
                have HE2 := Lib.hid hE2
                clear hE2 hf
                go_wp2_with (go_at_call 51; refine (width_97 _).mono ?_; rintro e w' ⟨rfl, rfl⟩)
                refine (number_at _ w.heap.size u6 out n 1 _ 1 rfl rfl hn64 (by omega) (own_alloc hob _) (Nat.le_trans hB.size (by simp)) (by omega)).mono ?_
                rintro e w5 ⟨v5, rfl, hob5, hg5, _⟩
                go_wp2_with fail
                go_roundw
                case rel =>
                  exact ⟨k + 1, out ++ one 97 ⟨n, ⟨#[]⟩⟩, by omega, by go_num, hob5, (hB.alloc hB.size _).grown hg5 (Nat.le_trans hB.size (by simp)) (own_lo hob), by rw [List.length_append]; have : (one 97 ⟨n, ⟨#[]⟩⟩).length = 1 := length_be 1 n; omega, HE2.out⟩
                case measure => simp [intOf]; omega
              · have hnI : ((n : Int) / 256 != 0) = true := by simp; omega
                have hf : fits 97 ⟨n, ⟨#[]⟩⟩ = false := fits_ge (by decide) (show wd 97 = 1 from rfl) (by omega)
                have hE2 := encL_fail HE.out HS.out hf
                have HT := Lib.hid (enc_none hsh hE2)
                clear hE2 hf
                go_wp2_with (go_at_call 51; refine (width_97 _).mono ?_; rintro e w' ⟨rfl, rfl⟩)
                go_ret2
                rw [HT.out]
                exact ⟨_, rfl, own_nil _ _, hB.alloc hB.size _⟩
            · have hte := noS_empty ht
              have hf : fits 97 ⟨n, t⟩ = false := by simp only [fits, wd]; rw [if_neg (by decide), decide_eq_false ht]; rfl
              clear ht
              have hE2 := encL_fail HE.out HS.out hf
              have HT := Lib.hid (enc_none hsh hE2)
              clear hE2 hf
              go_wp2_with (go_at_call 51; refine (width_97 _).mono ?_; rintro e w' ⟨rfl, rfl⟩)
              go_ret2
              rw [HT.out]
              exact ⟨_, rfl, own_nil _ _, hB.alloc hB.size _⟩
          · rw [h5] at hstep
            have HS := Lib.hid hstep
            clear hstep
            by_cases ht : t.size = 0
            · obtain rfl := size_noS ht
              clear ht
              unfold noS at *
              by_cases hn : n < 65536
              · have hnI : ((n : Int) / 65536 != 0) = false := by simp; omega
                have hf : fits 98 ⟨n, ⟨#[]⟩⟩ = true := fits_lt (by decide) (show wd 98 = 2 from rfl) (by omega)
                have hE2 := encL_step HE.out HS.out hf
                have HE2 := Lib.hid hE2
                clear hE2 hf
                go_wp2_with (go_at_call 51; refine (width_98 _).mono ?_; rintro e w' ⟨rfl, rfl⟩)
                refine (number_at _ w.heap.size u6 out n 2 _ 2 rfl rfl hn64 (by omega) (own_alloc hob _) (Nat.le_trans hB.size (by simp)) (by omega)).mono ?_
                rintro e w5 ⟨v5, rfl, hob5, hg5, _⟩
                go_wp2_with fail
                go_roundw
                case rel =>
                  exact ⟨k + 1, out ++ one 98 ⟨n, ⟨#[]⟩⟩, by omega, by go_num, hob5, (hB.alloc hB.size _).grown hg5 (Nat.le_trans hB.size (by simp)) (own_lo hob), by rw [List.length_append]; have : (one 98 ⟨n, ⟨#[]⟩⟩).length = 2 := length_be 2 n; omega, HE2.out⟩
                case measure => simp [intOf]; omega
              · have hnI : ((n : Int) / 65536 != 0) = true := by simp; omega
                have hf : fits 98 ⟨n, ⟨#[]⟩⟩ = false := fits_ge (by decide) (show wd 98 = 2 from rfl) (by omega)
                have hE2 := encL_fail HE.out HS.out hf
                have HT := Lib.hid (enc_none hsh hE2)
                clear hE2 hf
                go_wp2_with (go_at_call 51; refine (width_98 _).mono ?_; rintro e w' ⟨rfl, rfl⟩)
                go_ret2
                rw [HT.out]
                exact ⟨_, rfl, own_nil _ _, hB.alloc hB.size _⟩
            · have hte := noS_empty ht
              have hf : fits 98 ⟨n, t⟩ = false := by simp only [fits, wd]; rw [if_neg (by decide), decide_eq_false ht]; rfl
              clear ht
              have hE2 := encL_fail HE.out HS.out hf
              have HT := Lib.hid (enc_none hsh hE2)
              clear hE2 hf
              go_wp2_with (go_at_call 51; refine (width_98 _).mono ?_; rintro e w' ⟨rfl, rfl⟩)
              go_ret2
              rw [HT.out]
              exact ⟨_, rfl, own_nil _ _, hB.alloc hB.size _⟩
          · rw [h5] at hstep
            have HS := Lib.hid hstep
            clear hstep
            by_cases ht : t.size = 0
            · obtain rfl := size_noS ht
              clear ht
              unfold noS at *
              by_cases hn : n < 4294967296
              · have hnI : ((n : Int) / 4294967296 != 0) = false := by simp; omega
                have hf : fits 99 ⟨n, ⟨#[]⟩⟩ = true := fits_lt (by decide) (show wd 99 = 4 from rfl) (by omega)
                have hE2 := encL_step HE.out HS.out hf
                have HE2 := Lib.hid hE2
                clear hE2 hf
                go_wp2_with (go_at_call 51; refine (width_99 _).mono ?_; rintro e w' ⟨rfl, rfl⟩)
                refine (number_at _ w.heap.size u6 out n 4 _ 4 rfl rfl hn64 (by omega) (own_alloc hob _) (Nat.le_trans hB.size (by simp)) (by omega)).mono ?_
                rintro e w5 ⟨v5, rfl, hob5, hg5, _⟩
                go_wp2_with fail
                go_roundw
                case rel =>
                  exact ⟨k + 1, out ++ one 99 ⟨n, ⟨#[]⟩⟩, by omega, by go_num, hob5, (hB.alloc hB.size _).grown hg5 (Nat.le_trans hB.size (by simp)) (own_lo hob), by rw [List.length_append]; have : (one 99 ⟨n, ⟨#[]⟩⟩).length = 4 := length_be 4 n; omega, HE2.out⟩
                case measure => simp [intOf]; omega
              · have hnI : ((n : Int) / 4294967296 != 0) = true := by simp; omega
                have hf : fits 99 ⟨n, ⟨#[]⟩⟩ = false := fits_ge (by decide) (show wd 99 = 4 from rfl) (by omega)
                have hE2 := encL_fail HE.out HS.out hf
                have HT := Lib.hid (enc_none hsh hE2)
                clear hE2 hf
                go_wp2_with (go_at_call 51; refine (width_99 _).mono ?_; rintro e w' ⟨rfl, rfl⟩)
                go_ret2
                rw [HT.out]
                exact ⟨_, rfl, own_nil _ _, hB.alloc hB.size _⟩
            · have hte := noS_empty ht
              have hf : fits 99 ⟨n, t⟩ = false := by simp only [fits, wd]; rw [if_neg (by decide), decide_eq_false ht]; rfl
              clear ht
              have hE2 := encL_fail HE.out HS.out hf
              have HT := Lib.hid (enc_none hsh hE2)
              clear hE2 hf
              go_wp2_with (go_at_call 51; refine (width_99 _).mono ?_; rintro e w' ⟨rfl, rfl⟩)
              go_ret2
              rw [HT.out]
              exact ⟨_, rfl, own_nil _ _, hB.alloc hB.size _⟩
          · rw [h5] at hstep
            have HS := Lib.hid hstep
            clear hstep
            by_cases ht : t.size = 0
            · obtain rfl := size_noS ht
              clear ht
              unfold noS at *
              have hf : fits 100 ⟨n, ⟨#[]⟩⟩ = true := fits_lt (by decide) (show wd 100 = 8 from rfl) (by omega)
              have hE2 := encL_step HE.out HS.out hf
              have HE2 := Lib.hid hE2
              clear hE2 hf
              go_wp2_with (go_at_call 51; refine (width_100 _).mono ?_; rintro e w' ⟨rfl, rfl⟩)
              refine (number_at _ w.heap.size u6 out n 8 _ 8 rfl rfl hn64 (by omega) (own_alloc hob _) (Nat.le_trans hB.size (by simp)) (by omega)).mono ?_
              rintro e w5 ⟨v5, rfl, hob5, hg5, _⟩
              go_wp2_with fail
              go_roundw
              case rel =>
                exact ⟨k + 1, out ++ one 100 ⟨n, ⟨#[]⟩⟩, by omega, by go_num, hob5, (hB.alloc hB.size _).grown hg5 (Nat.le_trans hB.size (by simp)) (own_lo hob), by rw [List.length_append]; have : (one 100 ⟨n, ⟨#[]⟩⟩).length = 8 := length_be 8 n; omega, HE2.out⟩
              case measure => simp [intOf]; omega
            · have hte := noS_empty ht
              have hf : fits 100 ⟨n, t⟩ = false := by simp only [fits, wd]; rw [if_neg (by decide), decide_eq_false ht]; rfl
              clear ht
              have hE2 := encL_fail HE.out HS.out hf
              have HT := Lib.hid (enc_none hsh hE2)
              clear hE2 hf
              go_wp2_with (go_at_call 51; refine (width_100 _).mono ?_; rintro e w' ⟨rfl, rfl⟩)
              go_ret2
              rw [HT.out]
              exact ⟨_, rfl, own_nil _ _, hB.alloc hB.size _⟩
          · rw [h5] at hstep
            have HS := Lib.hid hstep
            clear hstep
            by_cases hn0 : n = 0
            · subst hn0
              by_cases ht : t.size ≤ 2000
              · have htI : (t.size : Int) ≤ 2000 := by omega
                have hf : fits 116 ⟨0, t⟩ = true := by unfold fits; rw [if_pos rfl]; simp [ht]
                have hE2 := encL_step HE.out HS.out hf
                have HE2 := Lib.hid hE2
                clear hE2 hf
                go_wp2_with (go_at_call 51; refine (width_116 _).mono ?_; rintro e w' ⟨rfl, rfl⟩)
                generalize h4 : World.alloc wo _ = w4
                obtain ⟨B4, z4, k4⟩ := alloc_facts h4
                have hob4 : OwnB w4 w.heap.size u6 out := by rw [← h4]; exact own_alloc hob _
                have hB4 : Below w.heap.size w w4 := by rw [← h4]; exact hB.alloc hB.size _
                have q1 : w4.cell? ⟨wo.heap.size, 1, none⟩ = some (.string t) := k4 1
                have hbl : ∀ j, u6.ownBlock = some j → j < wo.heap.size := fun j hj => (hob.lt j hj).2
                clear h4 k4 d0 d1
                generalize wo.heap.size = A at *
                refine start_ (n := 10) (S := fun w' => w'.cell? ⟨A, 1, none⟩ = some (.string t)) (ds := [8]) #[false, false, false, false, false, false, false, false, false, false] (by kernel_rfl) rfl rfl (q1) (fun hHeld => ?_)
                refine pure_ (i := 0) (N := some 74) (v := ?_) (a' := ?_) #[true, false, false, false, false, false, false, false, false, false] rfl rfl (by kernel_rfl) (fun _ _ _ h => h) (Or.inl ⟨by rfl, ?_⟩) ?_ ?_
                rotate_left
                · intro w'
                  go_simp
                  with_reducible rfl
                rotate_left
                · simp only [Act.put, List.setIfInBounds_toArray, List.set_cons_zero, List.set_cons_succ, i64_w, i32_w]
                  rfl
                refine pure_ (i := 1) (N := some 75) (v := ?_) (a' := ?_) #[true, true, false, false, false, false, false, false, false, false] rfl rfl (by kernel_rfl) (fun _ _ _ h => h) (Or.inl ⟨by rfl, ?_⟩) ?_ ?_
                rotate_left
                · intro w'
                  go_simp
                  with_reducible rfl
                rotate_left
                · simp only [Act.put, List.setIfInBounds_toArray, List.set_cons_zero, List.set_cons_succ, i64_w, i32_w]
                  rfl
                refine pure_ (i := 6) (N := some 80) (v := ?_) (a' := ?_) #[true, true, false, false, false, false, true, false, false, false] rfl rfl (by kernel_rfl) (fun _ _ _ h => h) (Or.inl ⟨by rfl, ?_⟩) ?_ ?_
                rotate_left
                · intro w'
                  go_simp
                  with_reducible rfl
                rotate_left
                · simp only [Act.put, List.setIfInBounds_toArray, List.set_cons_zero, List.set_cons_succ, i64_w, i32_w]
                  rfl
                refine take_ (i := 2) (N := some 76) (v := ?_) (a' := ?_) #[true, true, true, false, false, false, true, false, false, false] rfl rfl (by kernel_rfl) (fun _ _ _ h => h) (Or.inl ⟨by rfl, ?_⟩) hHeld ?_ ?_
                rotate_left
                · intro w' s0
                  go_simp
                  with_reducible rfl
                rotate_left
                · simp only [Act.put, List.setIfInBounds_toArray, List.set_cons_zero, List.set_cons_succ, i64_w, i32_w]
                  rfl
                refine pure_ (i := 3) (N := some 77) (v := ?_) (a' := ?_) #[true, true, true, true, false, false, true, false, false, false] rfl rfl (by kernel_rfl) (fun _ _ _ h => h) (Or.inl ⟨by rfl, ?_⟩) ?_ ?_
                rotate_left
                · intro w'
                  go_simp
                  with_reducible rfl
                rotate_left
                · simp only [Act.put, List.setIfInBounds_toArray, List.set_cons_zero, List.set_cons_succ, i64_w, i32_w]
                  rfl
                refine pure_ (i := 4) (N := some 78) (v := ?_) (a' := ?_) #[true, true, true, true, true, false, true, false, false, false] rfl rfl (by kernel_rfl) (fun _ _ _ h => h) (Or.inl ⟨by rfl, ?_⟩) ?_ ?_
                rotate_left
                · intro w'
                  go_simp
                  with_reducible rfl
                rotate_left
                · simp only [Act.put, List.setIfInBounds_toArray, List.set_cons_zero, List.set_cons_succ, i64_w, i32_w]
                  rfl
                refine take_ (i := 7) (N := some 81) (v := ?_) (a' := ?_) #[true, true, true, true, true, false, true, true, false, false] rfl rfl (by kernel_rfl) (fun _ _ _ h => h) (Or.inl ⟨by rfl, ?_⟩) hHeld ?_ ?_
                rotate_left
                · intro w' s0
                  go_simp
                  with_reducible rfl
                rotate_left
                · simp only [Act.put, List.setIfInBounds_toArray, List.set_cons_zero, List.set_cons_succ, i64_w, i32_w]
                  rfl
                refine one_ (i := 5) (N := some 79) #[true, true, true, true, true, true, true, true, false, false] rfl rfl (by kernel_rfl) (by decide) (fun K hK => ?_)
                refine goes_ Tryd.func52 (by kernel_rfl) rfl #[u6, .int .u64 (IntKind.u64.wrap (t.size : Int)), .int .i64 2] (by rfl) rfl rfl (by simp only [List.map_toArray, List.map_cons, List.map_nil]; rfl) ?_
                refine (number_at _ w.heap.size u6 out t.size 2 _ 2 (wrap_u64 _ (by omega)) rfl (by omega) (by omega) (World.ownsRow.drew hob4) hB4.drew.size (by omega)).mono ?_
                rintro e w5 ⟨v5, rfl, hob5, hg5, hloc5⟩
                refine ⟨_, rfl, ?_⟩
                clear hob4
                refine hK.out _ _ ((hg5.cell_far ⟨A, 1, none⟩ z4 (by intro h; have := hbl A h.symm; omega)).trans q1) (fun hHeld => ?_)
                clear hK K
                refine norm_ (a' := ?_) ?_ ?_
                rotate_left
                · show Act.put _ (some 79) _ = _
                  simp only [Act.put, List.setIfInBounds_toArray, List.set_cons_zero, List.set_cons_succ, i64_w, i32_w]
                  rfl
                refine last_ (i := 8) (N := some 82) #[true, true, true, true, true, true, true, true, true, false] rfl rfl (by kernel_rfl) (by decide) (fun K hK => ?_)
                refine append_string_ (by rfl) rfl (.tmp 79) (.tmp 81) 81 9 rfl w.heap.size 5 i0 Tryd.underlying81 Tryd.underlying9 hi hz0 hz1 hz2 v5 _ _ (by rfl) hob5 t (by rfl) (by rw [List.length_append, length_be]; unfold maxLen; omega) (by rw [List.length_append, length_be]; omega) (Nat.le_trans hB4.drew.size hg5.size) ?_
                intro v6 w6 hob6 hg6
                refine hK.out _ _ ?_
                clear hK K
                refine norm_ (a' := ?_) ?_ ?_
                rotate_left
                · show Act.put _ (some 82) _ = _
                  simp only [Act.put, List.setIfInBounds_toArray, List.set_cons_zero, List.set_cons_succ, i64_w, i32_w]
                  rfl
                refine pure_ (i := 9) (N := some 6) (v := ?_) (a' := ?_) #[true, true, true, true, true, true, true, true, true, true] rfl rfl (by kernel_rfl) (fun _ _ _ h => h) (Or.inl ⟨by rfl, ?_⟩) ?_ ?_
                rotate_left
                · intro w'
                  go_simp
                  with_reducible rfl
                rotate_left
                · simp only [Act.put, List.setIfInBounds_toArray, List.set_cons_zero, List.set_cons_succ, i64_w, i32_w]
                  rfl
                refine done_ (by kernel_rfl) ?_

                go_wp2
                go_roundw
                case rel =>
                  have hB5 := hB4.drew.grown hg5 hB4.drew.size (own_lo hob)
                  refine ⟨k + 1, out ++ one 116 ⟨0, t⟩, by omega, by go_num, ?_, hB5.grown hg6 hB5.size (own_lo hob5), ?_, HE2.out⟩
                  · have e1 : one 116 ⟨0, t⟩ = be 2 t.size ++ t.data.toList := rfl
                    have e2 : Go.Lib.strCells t = bcells t.data.toList := rfl
                    rw [e1, ← List.append_assoc, OwnB, bcells_append, List.length_append, size_toList, ← e2]
                    exact hob6
                  · have e1 : one 116 ⟨0, t⟩ = be 2 t.size ++ t.data.toList := rfl
                    rw [e1, List.length_append, List.length_append, length_be, size_toList]
                    omega
                case measure => simp [intOf]; omega
              · have htI : ¬ (t.size : Int) ≤ 2000 := by omega
                have hf : fits 116 ⟨0, t⟩ = false := by unfold fits; rw [if_pos rfl]; simp [ht]
                have hE2 := encL_fail HE.out HS.out hf
                have HT := Lib.hid (enc_none hsh hE2)
                clear hE2 hf
                go_wp2_with (go_at_call 51; refine (width_116 _).mono ?_; rintro e w' ⟨rfl, rfl⟩)
                go_ret2
                rw [HT.out]
                exact ⟨_, rfl, own_nil _ _, hB.alloc hB.size _⟩
            · have hnb : ((n : Int) != 0) = true := by simp; omega
              have hf : fits 116 ⟨n, t⟩ = false := by unfold fits; rw [if_pos rfl]; simp [hn0]
              have hE2 := encL_fail HE.out HS.out hf
              have HT := Lib.hid (enc_none hsh hE2)
              clear hE2 hf
              go_wp2_with (go_at_call 51; refine (width_116 _).mono ?_; rintro e w' ⟨rfl, rfl⟩)
              go_ret2
              rw [HT.out]
              exact ⟨_, rfl, own_nil _ _, hB.alloc hB.size _⟩
        · obtain rfl : k = vs.length := by omega
          have hdone : encL s.data.toList vs = some out := by
            rw [HE.out, List.drop_of_length_le (by rw [hsz]; have := HLEN.out; omega), List.drop_of_length_le (Nat.le_refl _)]
            simp [encL]
          have HT := Lib.hid (enc_some hsh hdone)
          clear hdone
          obtain ⟨lb, cb, hvb⟩ := own_slice hob
          subst hvb
          have hlo : (out.length : Int) ≤ 2002 * 100 := by have := HLEN.out; omega
          by_cases h4 : 4000 < out.length
          · have h4I : (4000 : Int) < (out.length : Int) := by omega
            rw [if_pos h4] at HT
            go_wp2_with fail
            go_ret2
            rw [HT.out]
            exact ⟨_, rfl, own_nil _ _, hB⟩
          · have h4I : ¬ (4000 : Int) < (out.length : Int) := by omega
            rw [if_neg h4] at HT
            go_wp2_with fail
            go_ret2
            rw [HT.out]
            exact ⟨_, rfl, hob, hB⟩
    · have hT : enc s.data.toList vs = ([], 2) := by
        unfold enc
        rw [if_neg (by simp [hsh]), if_pos (by rw [hsz]; exact hlen)]
      rw [hT]
      have hne : ((vs.length : Int) != (s.size : Int)) = true := by simp; omega
      clear hT
      go_enter Tryd.func27, Tryd.ntmps27
      go_wp2_with fail
      refine (shaped_any s _ hs).mono ?_
      rw [hsh]
      rintro e w1 ⟨rfl, hb1⟩
      go_wp2_with fail
      go_ret2
      exact ⟨_, rfl, own_nil _ _, hb1⟩
end Go.Proofs.YtajnaiofagppeaaDoor.CodeMem
