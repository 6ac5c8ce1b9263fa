/- Encode and Decode of package bazaarref03: what each call returns, and that it leaves whatever lay as it lay. -/
import Derived.Test.YtmbjbckjfkijmaaPageD
import Derived.Test.YtmbjbckjfkijmaaRefSeal
import Derived.Test.YtmbjbckjfkijmaaMade
namespace Go.Proofs.Ytmbjbckjfkijmaa
open Go.RowKit Go.Shelf
set_option linter.unusedVariables false

set_option maxRecDepth 100000 in
set_option maxHeartbeats 1000000 in
theorem rpencode_no (k : Int) (i t : Nat) (b : ByteArray) (w : World) (hk : -9223372036854775808 ≤ k ∧ k ≤ 9223372036854775807) (hi : i < 4294967296) (ht : t < 18446744073709551616) (hb : b.size ≤ maxLen) (h : rightB k i t b.size = false) :
    Calls Try.prog 33 #[.agg #[.int .i64 k, .int .u32 i, .int .u64 t, .string b]] w fun e w' => e = .returned (.tuple #[.string (mk []), .int .i64 30]) ∧ Below w.heap.size w w' := by
  have H := Lib.hid (fun w => rpright_any k i t b w hk hi ht hb)
  rw [h] at H
  clear h hk hi ht hb
  go_enter Try.func33, Try.ntmps33
  go_wp2_with fail
  refine (H.out _).mono ?_
  rintro e w1 ⟨rfl, hb1⟩
  go_wp2
  go_ret2
  exact ⟨rfl, (bl_al (bl_re w) _).trans (hb1.mono (by simp))⟩

theorem box_next {W w5 : World} {B : Nat} {v0 v1 v2 v3 : Value} (hb : Below W.heap.size W w5) (h : W.cell? ⟨B, 0, none⟩ = some v0 ∧ W.cell? ⟨B, 1, none⟩ = some v1 ∧ W.cell? ⟨B, 2, none⟩ = some v2 ∧ W.cell? ⟨B, 3, none⟩ = some v3) (hlt : B < W.heap.size) :
    (w5.cell? ⟨B, 0, none⟩ = some v0 ∧ w5.cell? ⟨B, 1, none⟩ = some v1 ∧ w5.cell? ⟨B, 2, none⟩ = some v2 ∧ w5.cell? ⟨B, 3, none⟩ = some v3) ∧ B < w5.heap.size :=
  ⟨⟨(hb.cell (p := ⟨B, 0, none⟩) hlt).trans h.1, (hb.cell (p := ⟨B, 1, none⟩) hlt).trans h.2.1, (hb.cell (p := ⟨B, 2, none⟩) hlt).trans h.2.2.1, (hb.cell (p := ⟨B, 3, none⟩) hlt).trans h.2.2.2⟩, Nat.lt_of_lt_of_le hlt hb.size⟩

set_option maxRecDepth 100000 in
set_option maxHeartbeats 4000000 in
theorem rpencode_yes (k i t : Nat) (b : ByteArray) (w : World) (hk : k ≤ 3) (hi : i < 4294967296) (ht : t < 18446744073709551616) (hb : b.size ≤ 237) (h : rightB k i t b.size = true) :
    Calls Try.prog 33 #[.agg #[.int .i64 k, .int .u32 i, .int .u64 t, .string b]] w fun e w' => e = .returned (.tuple #[.string (mk (encL k i t b.data.toList)), .int .i64 0]) ∧ Below w.heap.size w w' := by
  have H := Lib.hid (fun w => rpright_any k i t b w (by omega) hi ht (by unfold maxLen; omega))
  rw [h] at H
  clear h
  have hB := Blk.new w 60 #[.int .i64 (k : Int), .int .u32 (i : Int), .int .u64 (t : Int), .string b]
  have HB := Lib.hid hB
  clear hB
  go_enter Try.func33, Try.ntmps33
  go_wp2_with fail
  refine (H.out _).mono ?_
  rintro e w1 ⟨rfl, hb1⟩
  have b1 := HB.out.below hb1 (by simp)
  have c0 : w1.cell? ⟨w.heap.size, 0, none⟩ = some (.int .i64 (k : Int)) := b1.cell 0
  have c1 : w1.cell? ⟨w.heap.size, 1, none⟩ = some (.int .u32 (i : Int)) := b1.cell 1
  have c2 : w1.cell? ⟨w.heap.size, 2, none⟩ = some (.int .u64 (t : Int)) := b1.cell 2
  have c3 : w1.cell? ⟨w.heap.size, 3, none⟩ = some (.string b) := b1.cell 3
  have hlt := b1.lt
  have G1 := Lib.hid (And.intro b1 ((bl_al (bl_re w) _).trans (hb1.mono (by simp))))
  clear b1 hb1
  have e1 : IntKind.u64.wrap (k : Int) = k := IntWalk.u64_in _ (by omega)
  have e2 : IntKind.u64.wrap (i : Int) = i := IntWalk.u64_in _ (by omega)
  have e3 : IntKind.u64.wrap (b.size : Int) = b.size := IntWalk.u64_in _ (by omega)
  have h1 := fun W => rput_any k 1 W (by omega) (by omega) (by omega)
  have h2 := fun W => rput_any i 4 W (by omega) (by omega) (by omega)
  have h3 := fun W => rput_any t 8 W (by omega) (by omega) (by omega)
  have h4 := fun W => rput_any b.size 2 W (by omega) (by omega) (by omega)
  obtain ⟨a1, ha1⟩ : ∃ a, mk (be 1 k) = a := ⟨_, rfl⟩
  obtain ⟨a2, ha2⟩ : ∃ a, mk (be 4 i) = a := ⟨_, rfl⟩
  obtain ⟨a3, ha3⟩ : ∃ a, mk (be 8 t) = a := ⟨_, rfl⟩
  obtain ⟨a4, ha4⟩ : ∃ a, mk (be 2 b.size) = a := ⟨_, rfl⟩
  rw [ha1, show ((1 : Nat) : Int) = 1 from rfl] at h1
  rw [ha2, show ((4 : Nat) : Int) = 4 from rfl] at h2
  rw [ha3, show ((8 : Nat) : Int) = 8 from rfl] at h3
  rw [ha4, show ((2 : Nat) : Int) = 2 from rfl] at h4
  have s1 : a1.size = 1 := by rw [← ha1, mk_size, be_length]
  have s2 : a2.size = 4 := by rw [← ha2, mk_size, be_length]
  have s3 : a3.size = 8 := by rw [← ha3, mk_size, be_length]
  have s4 : a4.size = 2 := by rw [← ha4, mk_size, be_length]
  have t2 : (a1 ++ a2).size = 5 := by rw [ByteArray.size_append]; omega
  have t3 : (a1 ++ a2 ++ a3).size = 13 := by rw [ByteArray.size_append]; omega
  have t4 : (a1 ++ a2 ++ a3 ++ a4).size = 15 := by rw [ByteArray.size_append]; omega
  have t5 : (a1 ++ a2 ++ a3 ++ a4 ++ b).size = 15 + b.size := by rw [ByteArray.size_append]; omega
  have hd : (a1 ++ a2 ++ a3 ++ a4 ++ b).data.toList = headL k i t b.data.toList := by
    rw [ba_append, ba_append, ba_append, ba_append, ← ha1, ← ha2, ← ha3, ← ha4, mk_toList, mk_toList, mk_toList, mk_toList]
    unfold headL
    rw [ba_length]
  have hse := fun W => rseal_any (a1 ++ a2 ++ a3 ++ a4 ++ b) W (by rw [t5]; omega)
  rw [hd] at hse
  obtain ⟨z, hzz⟩ : ∃ z, mk (headL k i t b.data.toList ++ Sm.be4 (Sm.sumV (headL k i t b.data.toList))) = z := ⟨_, rfl⟩
  rw [hzz] at hse
  have hzs : z.size = 19 + b.size := by rw [← hzz, mk_size]; exact (sealL_length _).trans (by rw [headL_length, ba_length]; omega)
  have k1 : ∀ W, (Op.stringOp .add a1 a2).run Try.prog W = .ok (.string (a1 ++ a2)) W := fun W => run_string_add_sum W _ _ (by omega)
  have k2 : ∀ W, (Op.stringOp .add (a1 ++ a2) a3).run Try.prog W = .ok (.string (a1 ++ a2 ++ a3)) W := fun W => run_string_add_sum W _ _ (by omega)
  have k3 : ∀ W, (Op.stringOp .add (a1 ++ a2 ++ a3) a4).run Try.prog W = .ok (.string (a1 ++ a2 ++ a3 ++ a4)) W := fun W => run_string_add_sum W _ _ (by omega)
  have k4 : ∀ W, (Op.stringOp .add (a1 ++ a2 ++ a3 ++ a4) b).run Try.prog W = .ok (.string (a1 ++ a2 ++ a3 ++ a4 ++ b)) W := fun W => run_string_add_sum W _ _ (by omega)
  have H1 := Lib.hid h1
  have H2 := Lib.hid h2
  have H3 := Lib.hid h3
  have H4 := Lib.hid h4
  have HSE := Lib.hid hse
  have HZZ := Lib.hid (And.intro hzz hzs)
  clear h1 h2 h3 h4 hse hd hzz hzs s1 s2 s3 s4 t2 t3 t4 t5 ha1 ha2 ha3 ha4
  go_wp2_with fail
  go_region_held3 (fun w' => w'.cell? ⟨w.heap.size, 0, none⟩ = some (.int .i64 (k : Int)) ∧ w'.cell? ⟨w.heap.size, 1, none⟩ = some (.int .u32 (i : Int)) ∧ w'.cell? ⟨w.heap.size, 2, none⟩ = some (.int .u64 (t : Int)) ∧ w'.cell? ⟨w.heap.size, 3, none⟩ = some (.string b))
    (first
      | assumption
      | go_keep)
    (first
      | (go_at_call 53; ((with_reducible refine (H1.out _).mono ?_); rintro e w11 ⟨rfl, hb11⟩; obtain ⟨m11, l11⟩ := box_next hb11 (by assumption) hlt; have B11 := Lib.hid hb11; clear hb11))
      | (go_at_call 53; ((with_reducible refine (H2.out _).mono ?_); rintro e w12 ⟨rfl, hb12⟩; obtain ⟨m12, l12⟩ := box_next hb12 (by assumption) l11; have B12 := Lib.hid hb12; clear hb12))
      | (go_at_call 53; ((with_reducible refine (H3.out _).mono ?_); rintro e w13 ⟨rfl, hb13⟩; obtain ⟨m13, l13⟩ := box_next hb13 (by assumption) l12; have B13 := Lib.hid hb13; clear hb13))
      | (go_at_call 53; ((with_reducible refine (H4.out _).mono ?_); rintro e w14 ⟨rfl, hb14⟩; obtain ⟨m14, l14⟩ := box_next hb14 (by assumption) l13; have B14 := Lib.hid hb14; clear hb14))
      | (go_at_call 52; ((with_reducible refine (HSE.out _).mono ?_); rintro e w15 ⟨rfl, hb15⟩; obtain ⟨m15, l15⟩ := box_next hb15 (by assumption) l14; have B15 := Lib.hid hb15; clear hb15)))
  have hzs := HZZ.out.2
  obtain ⟨C, hC1, hC2⟩ := made_u8 (256 - (19 + b.size)) (by omega)
  have hc : ((256 - (19 + b.size) : Nat) : Int) = 256 - (z.size : Int) := by omega
  rw [hc] at hC1
  obtain ⟨zr, hzr⟩ : ∃ zr, mk (List.replicate (256 - (19 + b.size)) 0) = zr := ⟨_, rfl⟩
  rw [hzr] at hC2
  have hzr3 : zr.size ≤ 256 := by rw [← hzr, mk_size, List.length_replicate]; omega
  have hz0 : z.size ≤ 256 := by omega
  have hz1 : (z.size : Int) ≤ 256 := by omega
  have hcv := hC2 w15
  obtain ⟨m, hm⟩ : ∃ m, 256 - (19 + b.size) = m := ⟨_, rfl⟩
  rw [hm] at hC1 hcv
  have HC1 := Lib.hid hC1
  have HZR := Lib.hid (And.intro hzr hm)
  clear hzs hC1 hC2 hc hzr hm m11 m12 m13 m14 m15 k1 k2 k3 k4 e1 e2 e3 c0 c1 c2 c3
  go_wp2_with ((with_reducible refine pl_makeI 64 5 (256 - (z.size : Int)) m C (HC1.out _) ?_ ?_ ?_); rfl; rfl)
  go_ret2
  refine ⟨?_, bl_al (bl_tr (bl_tr (bl_tr (bl_tr (bl_tr (bl_dr G1.out.2) B11.out) B12.out) B13.out) B14.out) B15.out) _⟩
  have h : z ++ zr = mk (encL k i t b.data.toList) := ba_ext (by
    rw [ba_append, mk_toList, ← HZR.out.1, ← HZZ.out.1, mk_toList, mk_toList]
    unfold encL sealL
    rw [ba_length])
  rw [← h]
  rfl
set_option maxRecDepth 100000 in
set_option maxHeartbeats 1000000 in
theorem rpdecode_size (s : ByteArray) (w : World) (hs : s.size ≤ maxLen) (h : s.size ≠ 256) :
    Calls Try.prog 37 #[.string s] w fun e w' => e = .returned (.tuple #[pageZ, .int .i64 30]) ∧ Below w.heap.size w w' := by
  unfold maxLen at hs
  have d0 : ((s.size : Int) == 256) = false := by simp; omega
  have d1 : ((s.size : Int) != 256) = true := by simp; omega
  clear h
  unfold pageZ
  go_enter Try.func37, Try.ntmps37
  go_wp2
  exact bodyPost_ret (v := .tuple #[.agg #[.int .i64 0, .int .u32 0, .int .u64 0, .string ⟨#[]⟩], .int .i64 30]) (by simp [results, Try.results37, go_sem]) rfl ⟨rfl, bl_al (bl_re w) _⟩

set_option maxRecDepth 100000 in
set_option maxHeartbeats 1000000 in
theorem rpdecode_long (s : ByteArray) (w : World) (hs : s.size = 256) (h : 237 < dLen s.data.toList) :
    Calls Try.prog 37 #[.string s] w fun e w' => e = .returned (.tuple #[pageZ, .int .i64 30]) ∧ Below w.heap.size w w' := by
  have hn := fun w => rget_any (s.extract 13 15) w (by rw [ByteArray.size_extract]; omega)
  rw [ext_list] at hn
  obtain ⟨n, hnn⟩ : ∃ n, Sm.num ((s.data.toList.take 15).drop 13) = n := ⟨_, rfl⟩
  rw [hnn] at hn
  have HN := Lib.hid hn
  have h2 : 237 < n := by rw [← hnn]; exact h
  have h3 : n < 18446744073709551616 := by rw [← hnn]; exact num_lt8 _ (by simp; omega)
  have d1 : decide (237 < (n : Int)) = true := decide_eq_true (by omega)
  have h5 : n < 65536 := by rw [← hnn]; exact num_drop_lt _ 13 15
  have h4 : IntKind.i64.wrap (n : Int) = n := IntWalk.i64_in _ (by omega)
  clear hn hnn h h2 h3 h5
  unfold pageZ
  go_enter Try.func37, Try.ntmps37
  go_wp2_with fail
  refine (HN.out _).mono ?_
  rintro e w1 ⟨rfl, rfl⟩
  go_wp2
  exact bodyPost_ret (v := .tuple #[.agg #[.int .i64 0, .int .u32 0, .int .u64 0, .string ⟨#[]⟩], .int .i64 30]) (by simp [results, Try.results37, go_sem]) rfl ⟨rfl, bl_al (bl_re w) _⟩

set_option maxRecDepth 100000 in
set_option maxHeartbeats 4000000 in
theorem rpdecode_short (s : ByteArray) (w : World) (hs : s.size = 256) (h : dLen s.data.toList ≤ 237) :
    Calls Try.prog 37 #[.string s] w fun e w' => e = .returned (if decB s.data.toList = true then .tuple #[pageV (dKind s.data.toList) (dId s.data.toList) (dTx s.data.toList) (dBody s.data.toList), .int .i64 0] else .tuple #[pageZ, .int .i64 30]) ∧ Below w.heap.size w w' := by
  have hl : s.data.toList.length = 256 := by rw [ba_length]; exact hs
  have hn := fun w => rget_any (s.extract 13 15) w (by rw [ByteArray.size_extract]; omega)
  have hn1 := fun w => rget_any (s.extract 1 5) w (by rw [ByteArray.size_extract]; omega)
  have hn2 := fun w => rget_any (s.extract 5 13) w (by rw [ByteArray.size_extract]; omega)
  rw [ext_list] at hn hn1 hn2
  have hbody : s.extract 15 (15 + dLen s.data.toList) = mk (dBody s.data.toList) := ba_ext (by rw [ext_list, mk_toList]; rfl)
  have hbl := dBody_length s.data.toList hl h
  have hkind : (s[0]'(by omega)).toNat = dKind s.data.toList := by
    unfold dKind
    rw [List.getElem?_eq_getElem (by omega)]
    rfl
  have hk := dKind_lt s.data.toList
  have hi := dId_lt s.data.toList
  have ht := dTx_lt s.data.toList
  have hdec : decB s.data.toList = (rightB (dKind s.data.toList) (dId s.data.toList) (dTx s.data.toList) (dLen s.data.toList) && decide (encL (dKind s.data.toList) (dId s.data.toList) (dTx s.data.toList) (dBody s.data.toList) = s.data.toList)) := by
    unfold decB
    rw [Bool.eq_iff_iff]
    simp [hl, h]
  rw [hdec]
  change ∀ w, Calls _ _ _ w fun e w' => e = .returned (.int .u64 (dLen s.data.toList : Nat)) ∧ w = w' at hn
  change ∀ w, Calls _ _ _ w fun e w' => e = .returned (.int .u64 (dId s.data.toList : Nat)) ∧ w = w' at hn1
  change ∀ w, Calls _ _ _ w fun e w' => e = .returned (.int .u64 (dTx s.data.toList : Nat)) ∧ w = w' at hn2
  generalize dKind s.data.toList = k at *
  generalize dId s.data.toList = i at *
  generalize dTx s.data.toList = t at *
  generalize dLen s.data.toList = n at *
  generalize dBody s.data.toList = b at *
  have hmb : (mk b).size = n := by rw [mk_size]; exact hbl
  have HN := Lib.hid hn
  have HN1 := Lib.hid hn1
  have HN2 := Lib.hid hn2
  have HE : Hid (∀ W, Calls Try.prog 33 #[.agg #[.int .i64 (k : Int), .int .u32 (i : Int), .int .u64 (t : Int), .string (mk b)]] W fun e w' => e = .returned (if rightB k i t n = true then .tuple #[.string (mk (encL k i t b)), .int .i64 0] else .tuple #[.string (mk []), .int .i64 30]) ∧ Below W.heap.size W w') := Lib.hid (fun W => by
    cases hr : rightB k i t n with
    | true =>
      rw [if_pos rfl]
      have h3 := (rightB_iff _ _ _ _).1 hr
      have := rpencode_yes k i t (mk b) W (by omega) (by omega) (by omega) (by omega) (by rw [hmb]; exact hr)
      rwa [mk_toList] at this
    | false =>
      rw [if_neg (by simp)]
      exact rpencode_no k i t (mk b) W (by omega) (by omega) (by omega) (by unfold maxLen; omega) (by rw [hmb]; exact hr))
  have d1 : decide (237 < (n : Int)) = false := decide_eq_false (by omega)
  have e1 : IntKind.u32.wrap (i : Int) = i := IntWalk.u32_in _ (by omega)
  have e2 : IntKind.i64.wrap (n : Int) = n := IntWalk.i64_in _ (by omega)
  have e3 : IntKind.i64.wrap (15 + (n : Int)) = 15 + n := IntWalk.i64_in _ (by omega)
  have e4 : (15 + (n : Int)).toNat = 15 + n := by omega
  have e5 : (0 : Int) ≤ 15 + (n : Int) := by omega
  have e6 : (15 + (n : Int)) ≤ 256 := by omega
  have e7 : 15 + n ≤ 256 := by omega
  have e8 : IntKind.i64.wrap (k : Int) = k := IntWalk.i64_in _ (by omega)
  have e9 : ∀ W, (Instr.slice 9 (.string s) (some (.int .i64 15)) (some (.int .i64 (15 + (n : Int)))) none).run Try.prog W = .ok (.string (mk b)) W := fun W => by
    rw [run_slice_string (h := Try.underlying9) (h0 := by omega) (h1 := by omega) (h2 := by omega), e4, ← hbody]
    rfl
  have HX := Lib.hid (And.intro hl (And.intro hbl (And.intro hmb hdec)))
  clear hl hn hn1 hn2 hbl hdec hmb h hbody
  unfold pageZ pageV
  obtain ⟨R, hR⟩ : ∃ R : Value, (if (rightB (k : Int) i t n && decide (encL k i t b = s.data.toList)) = true then Value.tuple #[.agg #[.int .i64 (k : Int), .int .u32 (i : Int), .int .u64 (t : Int), .string (mk b)], .int .i64 0] else .tuple #[.agg #[.int .i64 0, .int .u32 0, .int .u64 0, .string ⟨#[]⟩], .int .i64 30]) = R := ⟨_, rfl⟩
  rw [hR]
  have HR := Lib.hid hR
  clear hR
  go_enter Try.func37, Try.ntmps37
  go_wp2_with fail
  refine (HN.out _).mono ?_
  rintro e w1 ⟨rfl, rfl⟩
  go_upto_region 6 with fail
  go_cut [5] (fun s5 wx => s5 = .pointer (some ⟨w.heap.size + 1, 0, none⟩) ∧ wx = ((w.alloc (.cells #[.int .i64 0, .int .u32 0, .int .u64 0, .string ⟨#[]⟩] 60)).alloc (.cells #[.int .i64 (k : Int), .int .u32 (i : Int), .int .u64 (t : Int), .string (mk b)] 60)).drew)
  case first =>
    go_region_held3 (fun w' => True) (first | go_keep | trivial)
      (first
        | (go_at_call 55; ((with_reducible refine (HN1.out _).mono ?_); rintro e w2 ⟨rfl, rfl⟩))
        | (go_at_call 55; ((with_reducible refine (HN2.out _).mono ?_); rintro e w3 ⟨rfl, rfl⟩)))
    all_goals (go_wp2_with fail; go_meet; exact ⟨rfl, rfl⟩)
  case rest =>
    obtain ⟨rfl, rfl⟩ := hcut
    have hz0 := (Blk.new w 60 #[.int .i64 0, .int .u32 0, .int .u64 0, .string ⟨#[]⟩]).alloc (.cells #[.int .i64 (k : Int), .int .u32 (i : Int), .int .u64 (t : Int), .string (mk b)] 60)
    have hp0 := Blk.new (w.alloc (.cells #[.int .i64 0, .int .u32 0, .int .u64 0, .string ⟨#[]⟩] 60)) 60 #[.int .i64 (k : Int), .int .u32 (i : Int), .int .u64 (t : Int), .string (mk b)]
    rw [World.size_alloc] at hp0
    have HZP := Lib.hid (And.intro hz0 hp0)
    clear hz0 hp0
    go_wp2_with fail
    rcases Bool.eq_false_or_eq_true (rightB k i t n) with hr | hr
    all_goals
      rw [hr] at HE
      have HRR := Lib.hid hr
      refine (HE.out _).mono ?_
      rintro e w5 ⟨rfl, hb5⟩
      have hz5 := HZP.out.1.drew.below hb5 (by simp; omega)
      have hp5 := HZP.out.2.drew.below hb5 (by simp)
      have c0 : w5.cell? ⟨w.heap.size, 0, none⟩ = some (.int .i64 0) := hz5.cell 0
      have c1 : w5.cell? ⟨w.heap.size, 1, none⟩ = some (.int .u32 0) := hz5.cell 1
      have c2 : w5.cell? ⟨w.heap.size, 2, none⟩ = some (.int .u64 0) := hz5.cell 2
      have c3 : w5.cell? ⟨w.heap.size, 3, none⟩ = some (.string ⟨#[]⟩) := hz5.cell 3
      have f0 := hz5.frozen 0
      have f1 := hz5.frozen 1
      have f2 := hz5.frozen 2
      have f3 := hz5.frozen 3
      have p0 : w5.cell? ⟨w.heap.size + 1, 0, none⟩ = some (.int .i64 (k : Int)) := hp5.cell 0
      have p1 : w5.cell? ⟨w.heap.size + 1, 1, none⟩ = some (.int .u32 (i : Int)) := hp5.cell 1
      have p2 : w5.cell? ⟨w.heap.size + 1, 2, none⟩ = some (.int .u64 (t : Int)) := hp5.cell 2
      have p3 : w5.cell? ⟨w.heap.size + 1, 3, none⟩ = some (.string (mk b)) := hp5.cell 3
      have HB := Lib.hid (And.intro hz5 ((bl_dr (bl_al (bl_al (bl_re w) _) _)).trans (hb5.mono (by simp; omega))))
      clear hz5 hp5 hb5 hr
    · rw [if_pos rfl]
      by_cases he : encL k i t b = s.data.toList
      · obtain ⟨z, hz⟩ : ∃ z, mk (encL k i t b) = z := ⟨_, rfl⟩
        rw [hz]
        have hzb : (z.toList == s.toList) = true := by rw [beq_iff_eq, ← hz, ByteArray.toList_eq, ByteArray.toList_eq, mk_toList]; exact he
        have HEQ := Lib.hid he
        clear he hz
        go_wp2
        exact post_page (v0 := .int .i64 (k : Int)) (v1 := .int .u32 (i : Int)) (v2 := .int .u64 (t : Int)) (v3 := .string (mk b)) rfl HB.out.1 rfl rfl rfl ⟨by rw [← HR.out, if_pos (by rw [HRR.out, HEQ.out]; simp)]; rfl, below_set4 HB.out.2 (Nat.le_refl _) _ _ _ _⟩
      · obtain ⟨z, hz⟩ : ∃ z, mk (encL k i t b) = z := ⟨_, rfl⟩
        rw [hz]
        have hzb : (z.toList == s.toList) = false := by rw [beq_eq_false_iff_ne, ← hz, ByteArray.toList_eq, ByteArray.toList_eq, mk_toList]; exact he
        have HEQ := Lib.hid he
        clear he hz
        go_wp2
        exact post_page (v0 := .int .i64 0) (v1 := .int .u32 0) (v2 := .int .u64 0) (v3 := .string ⟨#[]⟩) rfl HB.out.1 rfl rfl rfl ⟨by rw [← HR.out, if_neg (by rw [decide_eq_false HEQ.out]; simp)]; rfl, below_set4 HB.out.2 (Nat.le_refl _) _ _ _ _⟩
    · rw [if_neg (by simp)]
      go_wp2
      exact post_page (v0 := .int .i64 0) (v1 := .int .u32 0) (v2 := .int .u64 0) (v3 := .string ⟨#[]⟩) rfl HB.out.1 rfl rfl rfl ⟨by rw [← HR.out, if_neg (by rw [HRR.out]; simp)]; rfl, below_set4 HB.out.2 (Nat.le_refl _) _ _ _ _⟩

theorem rpdecode_any (s : ByteArray) (w : World) (hs : s.size ≤ maxLen) : Calls Try.prog 37 #[.string s] w fun e w' => e = .returned (decV s.data.toList) ∧ Below w.heap.size w w' := by
  by_cases h : s.size = 256
  · by_cases h2 : dLen s.data.toList ≤ 237
    · exact rpdecode_short s w h h2
    · unfold decV
      rw [decB_long _ (by omega), if_neg (by simp)]
      exact rpdecode_long s w h (by omega)
  · unfold decV
    rw [decB_size _ (by rw [ba_length]; exact h), if_neg (by simp)]
    exact rpdecode_size s w hs h
theorem rpencode_any (k : Int) (i t : Nat) (b : ByteArray) (w : World) (hk : -9223372036854775808 ≤ k ∧ k ≤ 9223372036854775807) (hi : i < 4294967296) (ht : t < 18446744073709551616) (hb : b.size ≤ maxLen) :
    Calls Try.prog 33 #[.agg #[.int .i64 k, .int .u32 i, .int .u64 t, .string b]] w fun e w' => e = .returned (encV k i t b) ∧ Below w.heap.size w w' := by
  unfold encV
  cases hr : rightB k i t b.size with
  | true =>
    have h3 := (rightB_iff _ _ _ _).1 hr
    obtain ⟨n, rfl⟩ : ∃ n : Nat, k = n := ⟨k.toNat, by omega⟩
    exact rpencode_yes n i t b w (by omega) hi ht (by omega) hr
  | false => exact rpencode_no k i t b w hk hi ht hb hr
end Go.Proofs.Ytmbjbckjfkijmaa
