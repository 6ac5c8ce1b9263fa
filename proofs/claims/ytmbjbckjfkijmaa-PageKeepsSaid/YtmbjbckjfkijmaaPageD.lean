/- Decode of package page: what each call returns, and that it leaves whatever lay as it lay. -/
import Derived.Test.YtmbjbckjfkijmaaPageE
import Derived.Deep.DeepCutAuto
namespace Go.Proofs.Ytmbjbckjfkijmaa
open Go.RowKit Go.Shelf
set_option linter.unusedVariables false

/-- What is read of a page's bytes: kind, id, transaction, the body's length, the body. -/
def dKind (l : List UInt8) : Nat := (l[0]?.getD 0).toNat
def dId (l : List UInt8) : Nat := Sm.num ((l.take 5).drop 1)
def dTx (l : List UInt8) : Nat := Sm.num ((l.take 13).drop 5)
def dLen (l : List UInt8) : Nat := Sm.num ((l.take 15).drop 13)
def dBody (l : List UInt8) : List UInt8 := (l.take (15 + dLen l)).drop 15
/-- Are these a page's bytes? -/
def decB (l : List UInt8) : Bool := decide (l.length = 256 ∧ dLen l ≤ 237 ∧ rightB (dKind l) (dId l) (dTx l) (dLen l) = true ∧ encL (dKind l) (dId l) (dTx l) (dBody l) = l)
def pageV (k i t : Nat) (b : List UInt8) : Value := .agg #[.int .i64 (k : Int), .int .u32 (i : Int), .int .u64 (t : Int), .string (mk b)]
def pageZ : Value := .agg #[.int .i64 0, .int .u32 0, .int .u64 0, .string ⟨#[]⟩]
theorem ext_list (s : ByteArray) (a b : Nat) : (s.extract a b).data.toList = (s.data.toList.take b).drop a := by
  rw [ByteArray.data_extract, Array.toList_extract, List.extract_eq_take_drop, List.drop_take]

theorem rowT_page : RowT Try.prog 60 4 := ⟨_, Try.underlying60, rfl, by kernel_rfl⟩
/-- Four stores into a block of four cells. -/
def set4 (w : World) (g : Nat) (v0 v1 v2 v3 : Value) : World := (((w.setCell ⟨g, 0, none⟩ v0).setCell ⟨g, 1, none⟩ v1).setCell ⟨g, 2, none⟩ v2).setCell ⟨g, 3, none⟩ v3
theorem Blk.set4 {w : World} {g : Nat} {t : TypeId} {z0 z1 z2 z3 : Value} (h : Blk w g t #[z0, z1, z2, z3]) (v0 v1 v2 v3 : Value) : Blk (set4 w g v0 v1 v2 v3) g t #[v0, v1, v2, v3] := by
  have h1 := (((h.set_ 0 v0).set_ 1 v1).set_ 2 v2).set_ 3 v3
  simp at h1
  exact h1
theorem below_set4 {B : Nat} {a w : World} (h : Below B a w) {g : Nat} (hg : B ≤ g) (v0 v1 v2 v3 : Value) : Below B a (set4 w g v0 v1 v2 v3) :=
  (((h.setCell (by exact hg) _).setCell (by exact hg) _).setCell (by exact hg) _).setCell (by exact hg) _
theorem post_page {fn : Func} {p q : Tmp} {R : Ending → World → Prop} {a : Act} {w1 : World} {g : Nat} {t : TypeId} {z0 z1 z2 z3 v0 v1 v2 v3 v : Value} (h : fn.results = #[.cell p 60, .tmp q]) (hB : Blk w1 g t #[z0, z1, z2, z3]) (hd : a.defers = [])
    (hp : a.tmps.getD p undef = .pointer (some ⟨g, 0, none⟩)) (hq : a.tmps.getD q undef = v) (hR : R (.returned (.tuple #[.agg #[v0, v1, v2, v3], v])) (set4 w1 g v0 v1 v2 v3)) : bodyPost Try.prog fn R .ret a (set4 w1 g v0 v1 v2 v3) := by
  obtain ⟨d, hu, hdd, hi⟩ := rowT_page
  have hc : (set4 w1 g v0 v1 v2 v3).rangeAt g 0 [v0, v1, v2, v3] := rangeAt_row (hB.set4 v0 v1 v2 v3) _ fun j v hj => by simpa using hj
  have hp' : a.tmps[p]?.getD undef = .pointer (some ⟨g, 0, none⟩) := by simpa using hp
  have hq' : a.tmps[q]?.getD undef = v := by simpa using hq
  refine bodyPost_ret (v := .tuple #[.agg #[v0, v1, v2, v3], v]) ?_ hd hR
  simp [results, h, hp', hq', asAddr, run_loadVar_mid _ g 0 _ [v0, v1, v2, v3] d hc hu hdd hi]

set_option maxRecDepth 100000 in
set_option maxHeartbeats 1000000 in
theorem decode_size (s : ByteArray) (w : World) (hs : s.size ≤ maxLen) (h : s.size ≠ 256) :
    Calls Try.prog 36 #[.string s] w fun e w' => e = .returned (.tuple #[pageZ, .int .i64 30]) ∧ Below w.heap.size w w' := by
  unfold maxLen at hs
  have d0 : ((s.size : Int) == 256) = false := by simp; omega
  have d1 : ((s.size : Int) != 256) = true := by simp; omega
  clear h
  unfold pageZ
  go_enter Try.func36, Try.ntmps36
  go_wp2
  exact bodyPost_ret (v := .tuple #[.agg #[.int .i64 0, .int .u32 0, .int .u64 0, .string ⟨#[]⟩], .int .i64 30]) (by simp [results, Try.results36, go_sem]) rfl ⟨rfl, bl_al (bl_re w) _⟩

set_option maxRecDepth 100000 in
set_option maxHeartbeats 1000000 in
theorem decode_long (s : ByteArray) (w : World) (hs : s.size = 256) (h : 237 < dLen s.data.toList) :
    Calls Try.prog 36 #[.string s] w fun e w' => e = .returned (.tuple #[pageZ, .int .i64 30]) ∧ Below w.heap.size w w' := by
  have hn := fun w => number_any (s.extract 13 15) w (by rw [ByteArray.size_extract]; omega)
  rw [ext_list] at hn
  obtain ⟨n, hnn⟩ : ∃ n, Sm.num ((s.data.toList.take 15).drop 13) = n := ⟨_, rfl⟩
  rw [hnn] at hn
  have HN := Lib.hid hn
  have h2 : 237 < n := by rw [← hnn]; exact h
  have h3 : n < 18446744073709551616 := by rw [← hnn]; exact num_lt8 _ (by simp; omega)
  have d1 : decide (237 < (n : Int)) = true := decide_eq_true (by omega)
  clear hn hnn h h2
  unfold pageZ
  go_enter Try.func36, Try.ntmps36
  go_wp2_with fail
  refine (HN.out _).mono ?_
  rintro e w1 ⟨rfl, rfl⟩
  go_wp2
  exact bodyPost_ret (v := .tuple #[.agg #[.int .i64 0, .int .u32 0, .int .u64 0, .string ⟨#[]⟩], .int .i64 30]) (by simp [results, Try.results36, go_sem]) rfl ⟨rfl, bl_al (bl_re w) _⟩

theorem dKind_lt (l : List UInt8) : dKind l < 256 := (l[0]?.getD 0).toNat_lt
theorem num_drop_lt (l : List UInt8) (a b : Nat) : Sm.num ((l.take b).drop a) < 256 ^ (b - a) := Nat.lt_of_lt_of_le (Sm.num_lt _) (Nat.pow_le_pow_right (by omega) (by simp; omega))
theorem dId_lt (l : List UInt8) : dId l < 4294967296 := num_drop_lt l 1 5
theorem dTx_lt (l : List UInt8) : dTx l < 18446744073709551616 := num_drop_lt l 5 13
theorem dBody_length (l : List UInt8) (h : l.length = 256) (hn : dLen l ≤ 237) : (dBody l).length = dLen l := by
  unfold dBody
  rw [List.length_drop, List.length_take]
  omega

set_option maxRecDepth 100000 in
set_option maxHeartbeats 4000000 in
theorem decode_short (s : ByteArray) (w : World) (hs : s.size = 256) (h : dLen s.data.toList ≤ 237) :
    Calls Try.prog 36 #[.string s] w fun e w' => e = .returned (if decB s.data.toList = true then .tuple #[pageV (dKind s.data.toList) (dId s.data.toList) (dTx s.data.toList) (dBody s.data.toList), .int .i64 0] else .tuple #[pageZ, .int .i64 30]) ∧ Below w.heap.size w w' := by
  have hl : s.data.toList.length = 256 := by rw [ba_length]; exact hs
  have hn := fun w => number_any (s.extract 13 15) w (by rw [ByteArray.size_extract]; omega)
  have hn1 := fun w => number_any (s.extract 1 5) w (by rw [ByteArray.size_extract]; omega)
  have hn2 := fun w => number_any (s.extract 5 13) w (by rw [ByteArray.size_extract]; omega)
  rw [ext_list] at hn hn1 hn2
  have hbody : s.extract 15 (15 + dLen s.data.toList) = mk (dBody s.data.toList) := ba_ext (by rw [ext_list, mk_toList]; rfl)
  have hbl := dBody_length s.data.toList hl h
  have hkind : (s[0]'(by omega)).toNat = dKind s.data.toList := by
    unfold dKind
    rw [List.getElem?_eq_getElem (by omega)]
    rfl
  have hk := dKind_lt s.data.toList
  have hi := dId_lt s.data.toList
  have ht := dTx_lt s.data.toList
  have hdec : decB s.data.toList = (rightB (dKind s.data.toList) (dId s.data.toList) (dTx s.data.toList) (dLen s.data.toList) && decide (encL (dKind s.data.toList) (dId s.data.toList) (dTx s.data.toList) (dBody s.data.toList) = s.data.toList)) := by
    unfold decB
    rw [Bool.eq_iff_iff]
    simp [hl, h]
  rw [hdec]
  change ∀ w, Calls _ _ _ w fun e w' => e = .returned (.int .u64 (dLen s.data.toList : Nat)) ∧ w = w' at hn
  change ∀ w, Calls _ _ _ w fun e w' => e = .returned (.int .u64 (dId s.data.toList : Nat)) ∧ w = w' at hn1
  change ∀ w, Calls _ _ _ w fun e w' => e = .returned (.int .u64 (dTx s.data.toList : Nat)) ∧ w = w' at hn2
  generalize dKind s.data.toList = k at *
  generalize dId s.data.toList = i at *
  generalize dTx s.data.toList = t at *
  generalize dLen s.data.toList = n at *
  generalize dBody s.data.toList = b at *
  have hmb : (mk b).size = n := by rw [mk_size]; exact hbl
  have HN := Lib.hid hn
  have HN1 := Lib.hid hn1
  have HN2 := Lib.hid hn2
  have HE : Hid (∀ W, Calls Try.prog 32 #[.agg #[.int .i64 (k : Int), .int .u32 (i : Int), .int .u64 (t : Int), .string (mk b)]] W fun e w' => e = .returned (if rightB k i t n = true then .tuple #[.string (mk (encL k i t b)), .int .i64 0] else .tuple #[.string (mk []), .int .i64 30]) ∧ Below W.heap.size W w') := Lib.hid (fun W => by
    cases hr : rightB k i t n with
    | true =>
      rw [if_pos rfl]
      have h3 := (rightB_iff _ _ _ _).1 hr
      have := encode_yes k i t (mk b) W (by omega) (by omega) (by omega) (by omega) (by rw [hmb]; exact hr)
      rwa [mk_toList] at this
    | false =>
      rw [if_neg (by simp)]
      exact encode_no k i t (mk b) W (by omega) (by omega) (by omega) (by unfold maxLen; omega) (by rw [hmb]; exact hr))
  have d1 : decide (237 < (n : Int)) = false := decide_eq_false (by omega)
  have e1 : IntKind.u32.wrap (i : Int) = i := IntWalk.u32_in _ (by omega)
  have e2 : IntKind.i64.wrap (n : Int) = n := IntWalk.i64_in _ (by omega)
  have e3 : IntKind.i64.wrap (15 + (n : Int)) = 15 + n := IntWalk.i64_in _ (by omega)
  have e4 : (15 + (n : Int)).toNat = 15 + n := by omega
  have e5 : (0 : Int) ≤ 15 + (n : Int) := by omega
  have e6 : (15 + (n : Int)) ≤ 256 := by omega
  have e7 : 15 + n ≤ 256 := by omega
  have e8 : IntKind.i64.wrap (k : Int) = k := IntWalk.i64_in _ (by omega)
  have e9 : ∀ W, (Instr.slice 9 (.string s) (some (.int .i64 15)) (some (.int .i64 (15 + (n : Int)))) none).run Try.prog W = .ok (.string (mk b)) W := fun W => by
    rw [run_slice_string (h := Try.underlying9) (h0 := by omega) (h1 := by omega) (h2 := by omega), e4, ← hbody]
    rfl
  have HX := Lib.hid (And.intro hl (And.intro hbl (And.intro hmb hdec)))
  clear hl hn hn1 hn2 hbl hdec hmb h hbody
  unfold pageZ pageV
  obtain ⟨R, hR⟩ : ∃ R : Value, (if (rightB (k : Int) i t n && decide (encL k i t b = s.data.toList)) = true then Value.tuple #[.agg #[.int .i64 (k : Int), .int .u32 (i : Int), .int .u64 (t : Int), .string (mk b)], .int .i64 0] else .tuple #[.agg #[.int .i64 0, .int .u32 0, .int .u64 0, .string ⟨#[]⟩], .int .i64 30]) = R := ⟨_, rfl⟩
  rw [hR]
  have HR := Lib.hid hR
  clear hR
  go_enter Try.func36, Try.ntmps36
  go_wp2_with fail
  refine (HN.out _).mono ?_
  rintro e w1 ⟨rfl, rfl⟩
  go_upto_region 6 with fail
  go_cut [5] (fun s5 wx => s5 = .pointer (some ⟨w.heap.size + 1, 0, none⟩) ∧ wx = ((w.alloc (.cells #[.int .i64 0, .int .u32 0, .int .u64 0, .string ⟨#[]⟩] 60)).alloc (.cells #[.int .i64 (k : Int), .int .u32 (i : Int), .int .u64 (t : Int), .string (mk b)] 60)).drew)
  case first =>
    go_region_held3 (fun w' => True) (first | go_keep | trivial)
      (first
        | (go_at_call 54; ((with_reducible refine (HN1.out _).mono ?_); rintro e w2 ⟨rfl, rfl⟩))
        | (go_at_call 54; ((with_reducible refine (HN2.out _).mono ?_); rintro e w3 ⟨rfl, rfl⟩)))
    all_goals (go_wp2_with fail; go_meet; exact ⟨rfl, rfl⟩)
  case rest =>
    obtain ⟨rfl, rfl⟩ := hcut
    have hz0 := (Blk.new w 60 #[.int .i64 0, .int .u32 0, .int .u64 0, .string ⟨#[]⟩]).alloc (.cells #[.int .i64 (k : Int), .int .u32 (i : Int), .int .u64 (t : Int), .string (mk b)] 60)
    have hp0 := Blk.new (w.alloc (.cells #[.int .i64 0, .int .u32 0, .int .u64 0, .string ⟨#[]⟩] 60)) 60 #[.int .i64 (k : Int), .int .u32 (i : Int), .int .u64 (t : Int), .string (mk b)]
    rw [World.size_alloc] at hp0
    have HZP := Lib.hid (And.intro hz0 hp0)
    clear hz0 hp0
    go_wp2_with fail
    rcases Bool.eq_false_or_eq_true (rightB k i t n) with hr | hr
    all_goals
      rw [hr] at HE
      have HRR := Lib.hid hr
      refine (HE.out _).mono ?_
      rintro e w5 ⟨rfl, hb5⟩
      have hz5 := HZP.out.1.drew.below hb5 (by simp; omega)
      have hp5 := HZP.out.2.drew.below hb5 (by simp)
      have c0 : w5.cell? ⟨w.heap.size, 0, none⟩ = some (.int .i64 0) := hz5.cell 0
      have c1 : w5.cell? ⟨w.heap.size, 1, none⟩ = some (.int .u32 0) := hz5.cell 1
      have c2 : w5.cell? ⟨w.heap.size, 2, none⟩ = some (.int .u64 0) := hz5.cell 2
      have c3 : w5.cell? ⟨w.heap.size, 3, none⟩ = some (.string ⟨#[]⟩) := hz5.cell 3
      have f0 := hz5.frozen 0
      have f1 := hz5.frozen 1
      have f2 := hz5.frozen 2
      have f3 := hz5.frozen 3
      have p0 : w5.cell? ⟨w.heap.size + 1, 0, none⟩ = some (.int .i64 (k : Int)) := hp5.cell 0
      have p1 : w5.cell? ⟨w.heap.size + 1, 1, none⟩ = some (.int .u32 (i : Int)) := hp5.cell 1
      have p2 : w5.cell? ⟨w.heap.size + 1, 2, none⟩ = some (.int .u64 (t : Int)) := hp5.cell 2
      have p3 : w5.cell? ⟨w.heap.size + 1, 3, none⟩ = some (.string (mk b)) := hp5.cell 3
      have HB := Lib.hid (And.intro hz5 ((bl_dr (bl_al (bl_al (bl_re w) _) _)).trans (hb5.mono (by simp; omega))))
      clear hz5 hp5 hb5 hr
    · rw [if_pos rfl]
      by_cases he : encL k i t b = s.data.toList
      · obtain ⟨z, hz⟩ : ∃ z, mk (encL k i t b) = z := ⟨_, rfl⟩
        rw [hz]
        have hzb : (z.toList == s.toList) = true := by rw [beq_iff_eq, ← hz, ByteArray.toList_eq, ByteArray.toList_eq, mk_toList]; exact he
        have HEQ := Lib.hid he
        clear he hz
        go_wp2
        exact post_page (v0 := .int .i64 (k : Int)) (v1 := .int .u32 (i : Int)) (v2 := .int .u64 (t : Int)) (v3 := .string (mk b)) rfl HB.out.1 rfl rfl rfl ⟨by rw [← HR.out, if_pos (by rw [HRR.out, HEQ.out]; simp)]; rfl, below_set4 HB.out.2 (Nat.le_refl _) _ _ _ _⟩
      · obtain ⟨z, hz⟩ : ∃ z, mk (encL k i t b) = z := ⟨_, rfl⟩
        rw [hz]
        have hzb : (z.toList == s.toList) = false := by rw [beq_eq_false_iff_ne, ← hz, ByteArray.toList_eq, ByteArray.toList_eq, mk_toList]; exact he
        have HEQ := Lib.hid he
        clear he hz
        go_wp2
        exact post_page (v0 := .int .i64 0) (v1 := .int .u32 0) (v2 := .int .u64 0) (v3 := .string ⟨#[]⟩) rfl HB.out.1 rfl rfl rfl ⟨by rw [← HR.out, if_neg (by rw [decide_eq_false HEQ.out]; simp)]; rfl, below_set4 HB.out.2 (Nat.le_refl _) _ _ _ _⟩
    · rw [if_neg (by simp)]
      go_wp2
      exact post_page (v0 := .int .i64 0) (v1 := .int .u32 0) (v2 := .int .u64 0) (v3 := .string ⟨#[]⟩) rfl HB.out.1 rfl rfl rfl ⟨by rw [← HR.out, if_neg (by rw [HRR.out]; simp)]; rfl, below_set4 HB.out.2 (Nat.le_refl _) _ _ _ _⟩

/-- What Decode tells. -/
def decV (l : List UInt8) : Value := if decB l = true then .tuple #[pageV (dKind l) (dId l) (dTx l) (dBody l), .int .i64 0] else .tuple #[pageZ, .int .i64 30]
theorem decB_size (l : List UInt8) (h : l.length ≠ 256) : decB l = false := by
  unfold decB
  exact decide_eq_false fun x => h x.1
theorem decB_long (l : List UInt8) (h : 237 < dLen l) : decB l = false := by
  unfold decB
  exact decide_eq_false fun x => by have := x.2.1; omega
theorem decode_any (s : ByteArray) (w : World) (hs : s.size ≤ maxLen) : Calls Try.prog 36 #[.string s] w fun e w' => e = .returned (decV s.data.toList) ∧ Below w.heap.size w w' := by
  by_cases h : s.size = 256
  · by_cases h2 : dLen s.data.toList ≤ 237
    · exact decode_short s w h h2
    · unfold decV
      rw [decB_long _ (by omega), if_neg (by simp)]
      exact decode_long s w h (by omega)
  · unfold decV
    rw [decB_size _ (by rw [ba_length]; exact h), if_neg (by simp)]
    exact decode_size s w hs h
/-- What Encode tells. -/
def encV (k : Int) (i t : Nat) (b : ByteArray) : Value := if rightB k i t b.size = true then .tuple #[.string (mk (encL k.toNat i t b.data.toList)), .int .i64 0] else .tuple #[.string (mk []), .int .i64 30]
theorem encode_any (k : Int) (i t : Nat) (b : ByteArray) (w : World) (hk : -9223372036854775808 ≤ k ∧ k ≤ 9223372036854775807) (hi : i < 4294967296) (ht : t < 18446744073709551616) (hb : b.size ≤ maxLen) :
    Calls Try.prog 32 #[.agg #[.int .i64 k, .int .u32 i, .int .u64 t, .string b]] w fun e w' => e = .returned (encV k i t b) ∧ Below w.heap.size w w' := by
  unfold encV
  cases hr : rightB k i t b.size with
  | true =>
    have h3 := (rightB_iff _ _ _ _).1 hr
    obtain ⟨n, rfl⟩ : ∃ n : Nat, k = n := ⟨k.toNat, by omega⟩
    exact encode_yes n i t b w (by omega) hi ht (by omega) hr
  | false => exact encode_no k i t b w hk hi ht hb hr
end Go.Proofs.Ytmbjbckjfkijmaa
