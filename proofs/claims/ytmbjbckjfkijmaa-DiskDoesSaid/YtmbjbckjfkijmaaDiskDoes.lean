/- The walk of the law DiskDoes: the program's disk and the reference's, act by act. -/
import Derived.Test.YtmbjbckjfkijmaaDid
namespace Go.Proofs.Ytmbjbckjfkijmaa
open Go.RowKit Go.Shelf
attribute [local go_sem] Oper.semAt_some
attribute [local go_sem ↓] Go.wp_at_zero Go.wp_at_succ

theorem act_ok_below {w w' : World} {x : ActV} (h : x.ok w) (hb : Below w.heap.size w w') : x.ok w' := ⟨h.1, h.2.1, h.2.2.1, h.2.2.2.1, h.2.2.2.2.1, h.2.2.2.2.2.1, h.2.2.2.2.2.2.below hb⟩
theorem act_ok_lt {w : World} {x : ActV} (h : x.ok w) : ∀ a, x.so = some a → 0 < x.l.length → a.block < w.heap.size := fun a ha hl => by
  obtain ⟨b, h1, h2, _⟩ := h.2.2.2.2.2.2 0 x.l[0] (List.getElem?_eq_getElem hl)
  rw [ha] at h1
  obtain rfl := Option.some.inj h1
  exact h2

/-- The cells of the reference's disk. -/
theorem Two.cells {F : Nat → Prop} {w : World} {g h : Nat} {D E : Dk} (t : Two F w g D h E) : ∃ (so1 : Option Addr) (c1 : Nat) (so2 : Option Addr) (c2 : Nat), w.cell? ⟨h, 0, none⟩ = some (.slice so1 E.S.length c1) ∧ w.cell? ⟨h, 1, none⟩ = some (.slice so2 E.U.length c2) ∧ w.cell? ⟨h, 3, none⟩ = some (.int .i64 (E.N : Int)) ∧
    w.ownsRow 0 3 1 (.slice so2 E.U.length c2) E.U.length (nats (E.U.map (·.1))) := by
  obtain ⟨_, S1, S2, _, _, _, _, _, v1, v2, v3, r⟩ := t
  obtain ⟨so1, c1, rfl⟩ := own_slice r.o1
  have o2 := r.o2
  rw [List.length_map] at o2
  obtain ⟨so2, c2, rfl⟩ := own_slice o2
  exact ⟨so1, c1, so2, c2, r.blk.cell 0, r.blk.cell 1, r.blk.cell 3, o2⟩
theorem unsV_nats (U : List (Nat × List UInt8)) : unsV U = nats (U.map (·.1)) := by simp [unsV, nats]
theorem cells3 {w w' : World} {B h : Nat} {a b c : Value} (hb : Below B w w') (hB : B = w.heap.size) (hk : w.cell? ⟨h, 0, none⟩ = some a ∧ w.cell? ⟨h, 1, none⟩ = some b ∧ w.cell? ⟨h, 3, none⟩ = some c) : w'.cell? ⟨h, 0, none⟩ = some a ∧ w'.cell? ⟨h, 1, none⟩ = some b ∧ w'.cell? ⟨h, 3, none⟩ = some c := by
  subst hB
  have hl : h < w.heap.size := World.block_lt_of_cell? _ _ hk.1
  exact ⟨(hb.cell (p := ⟨h, 0, none⟩) hl).trans hk.1, (hb.cell (p := ⟨h, 1, none⟩) hl).trans hk.2.1, (hb.cell (p := ⟨h, 3, none⟩) hl).trans hk.2.2⟩

set_option maxRecDepth 100000 in
set_option maxHeartbeats 4000000 in
theorem does_out (s : Int) (so : Option Addr) (n1 cap1 : Nat) (w : World) (hs : s < 1 ∨ 40 < s) :
    Calls Try.prog 7 #[.int .i64 s, .slice so n1 cap1] w fun e w' => e = .returned (.bool true) ∧ Below w.heap.size w w' := by
  have H1 := Lib.hid (fun w => shown_any w)
  by_cases h1 : s < 1
  · have H2 := Lib.hid (fun w => new_no s w (.inl h1))
    have H3 := Lib.hid (fun w => rnew_no s w (.inl h1))
    have e1 : ¬ 40 < s := by omega
    clear hs h1
    go_enter Try.func7, Try.ntmps7
    go_wp2_with fail
    refine (H1.out _).mono ?_
    rintro e w1 ⟨rfl, hb1⟩
    go_wp2_with fail
    refine (H2.out _).mono ?_
    rintro e w2 ⟨rfl, hb2⟩
    go_wp2_with fail
    refine (H3.out _).mono ?_
    rintro e w3 ⟨rfl, hb3⟩
    have HB := Lib.hid (bl_tr (bl_tr hb1 hb2) hb3)
    clear hb1 hb2 hb3
    go_wp2
    go_ret
    exact ⟨rfl, HB.out⟩
  · have e1 : 40 < s := by omega
    by_cases h2 : s ≤ 65536
    · clear hs h1
      go_enter Try.func7, Try.ntmps7
      go_wp2_with fail
      refine (H1.out _).mono ?_
      rintro e w1 ⟨rfl, hb1⟩
      have HB := Lib.hid hb1
      clear hb1
      go_wp2
      go_ret
      exact ⟨rfl, HB.out⟩
    · have H2 := Lib.hid (fun w => new_no s w (.inr (by omega)))
      have H3 := Lib.hid (fun w => rnew_no s w (.inr (by omega)))
      clear hs h1
      go_enter Try.func7, Try.ntmps7
      go_wp2_with fail
      refine (H1.out _).mono ?_
      rintro e w1 ⟨rfl, hb1⟩
      go_wp2_with fail
      refine (H2.out _).mono ?_
      rintro e w2 ⟨rfl, hb2⟩
      go_wp2_with fail
      refine (H3.out _).mono ?_
      rintro e w3 ⟨rfl, hb3⟩
      have HB := Lib.hid (bl_tr (bl_tr hb1 hb2) hb3)
      clear hb1 hb2 hb3
      go_wp2
      go_ret
      exact ⟨rfl, HB.out⟩

set_option maxRecDepth 100000 in
set_option maxHeartbeats 8000000 in
theorem does_in (n : Nat) (so : Option Addr) (n1 cap1 : Nat) (xs : List ActV) (w : World) (hs : 1 ≤ n ∧ n ≤ 40) (hn : xs.length = n1) (hn2 : n1 ≤ maxLen) (hx : ActsAt w so xs) :
    Calls Try.prog 7 #[.int .i64 n, .slice so n1 cap1] w fun e w' => e = .returned (.bool true) ∧ Below w.heap.size w w' := by
  unfold maxLen at hn2
  have H1 := Lib.hid (shown_any w)
  have H2 := Lib.hid (fun w1 : World => new_yes (fun k => w1.heap.size ≤ k) n w1 hs.1 (by omega) (fun k hk => hk))
  have H3 := Lib.hid (fun w1 : World => rnew_yes (fun k => w1.heap.size ≤ k) n w1 hs.1 (by omega) (fun k hk => hk))
  have HX := Lib.hid (And.intro hn hx)
  have e1 : ¬ 40 < (n : Int) := by omega
  clear hn hx
  go_enter Try.func7, Try.ntmps7
  go_wp2_with fail
  refine H1.out.mono ?_
  rintro e w1 ⟨rfl, hb1⟩
  go_wp2_with fail
  refine (H2.out w1).mono ?_
  rintro e w2 ⟨g, rfl, hg, hh2, hb2⟩
  go_wp2_with fail
  refine (H3.out w2).mono ?_
  rintro e w3 ⟨h, rfl, hh, hh3, hb3⟩
  have T0 := Lib.hid (And.intro ((Two.make hb2 hb3 hh2 hh3).less (F := fun k => k < w.heap.size) (fun k hk => Nat.lt_of_lt_of_le hk hb1.size)) (bl_tr (bl_tr hb1 hb2) hb3))
  clear hb1 hb2 hb3 hh2 hh3 hg hh H1 H2 H3
  go_wp2_with fail
  go_loopw [10, 11, 12, 13, 14, 15, 16] (fun i _ _ _ _ _ _ wr => ∃ (k : Nat) (D : Dk), k ≤ n1 ∧ k ≤ 80 ∧ i = .int .i64 k ∧ Two (fun k => k < w.heap.size) wr g D h D ∧ D.S.length = n ∧ D.U.length ≤ k ∧ D.N ≤ k ∧ Below w.heap.size w wr) (fun i _ _ _ _ _ _ _ => 80 - (intOf i).toNat)
  case atStart => exact ⟨0, Dk.new n, by omega, by omega, rfl, T0.out.1, by simp [Dk.new], by simp [Dk.new], by simp [Dk.new], T0.out.2⟩
  case round =>
    obtain ⟨k, D, hk1, hk2, rfl, hrest⟩ := hrel
    have HR := Lib.hid hrest
    clear hrest T0
    by_cases hlt : k < n1 ∧ k < 80
    · obtain ⟨hl1, hl2⟩ := hlt
      obtain ⟨x, hx⟩ : ∃ x, xs[k]? = some x := ⟨_, List.getElem?_eq_getElem (by rw [HX.out.1]; exact hl1)⟩
      obtain ⟨hok, b, o, rfl, hb, c0, c1, c2, c3⟩ := HX.out.2 k x hx
      clear hx
      have hbel := HR.out.2.2.2.2
      have q0 : wr.cell? ⟨b, o + k * 4, none⟩ = some (.int .i64 x.d) := (hbel.cell hb).trans c0
      have q1 : wr.cell? ⟨b, o + k * 4 + 1, none⟩ = some (.int .i64 x.c) := (hbel.cell hb).trans c1
      have q2 : wr.cell? ⟨b, o + k * 4 + 2, none⟩ = some (.string x.s) := (hbel.cell hb).trans c2
      have q3 : wr.cell? ⟨b, o + k * 4 + 3, none⟩ = some (.slice x.so x.n x.cap) := (hbel.cell hb).trans c3
      have HD := Lib.hid (did_any (fun k => k < w.heap.size) g h D x wr HR.out.1 (act_ok_below hok hbel) (act_ok_lt hok) (by have := HR.out.2.2.1; omega) (by have := HR.out.2.2.2.1; omega))
      clear hok c0 c1 c2 c3 hb hbel
      have i0 : (0 : Int) ≤ (k : Int) := Int.natCast_nonneg _
      have i1 : (k : Int) < (n1 : Int) := by omega
      go_wp2_with (go_at_call 26; refine HD.out.mono ?_; rintro e w4 ⟨rfl, D', ht4, hc4, hnear⟩)
      obtain ⟨hS4, hU4, hN4⟩ := hnear
      have hB4 : Below w.heap.size w w4 := HR.out.2.2.2.2.trans (hc4.below (fun k hk => by simpa using hk) HR.out.2.2.2.2.size)
      have hSn : D'.S.length = n := hS4.trans HR.out.2.1
      have hUn : D'.U.length ≤ k + 1 := by have := HR.out.2.2.1; omega
      have hNn : D'.N ≤ k + 1 := by have := HR.out.2.2.2.1; omega
      obtain ⟨so1, c1, so2, c2, k0, k1, k3, ho⟩ := ht4.cells
      obtain ⟨S, hSnew, hSF, hheld, hback⟩ := ht4.left
      have H4 := Lib.hid (And.intro ht4 (And.intro hB4 (And.intro hSn (And.intro hUn (And.intro hNn (And.intro ho (And.intro hheld (And.intro k0 (And.intro k1 k3)))))))))
      clear q0 q1 q2 q3 HD ht4 hc4 hS4 hU4 hN4 hB4 hSn hUn hNn ho hSnew hSF hheld hback
      obtain ⟨nU, hnU⟩ : ∃ nU, D'.U.length = nU := ⟨_, rfl⟩
      obtain ⟨nN, hnN⟩ : ∃ nN, D'.N = nN := ⟨_, rfl⟩
      rw [hnU] at k1
      rw [hnN] at k3
      rw [H4.out.2.2.1] at k0
      have HL := Lib.hid (And.intro hnU hnN)
      have z1 : nU ≤ 81 := by have := H4.out.2.2.2.1; omega
      have z2 : nN ≤ 81 := by have := H4.out.2.2.2.2.1; omega
      have K4 := Lib.hid (And.intro k0 (And.intro k1 k3))
      clear hnU hnN
      go_wp2_with fail
      go_region_held3 (fun w' => w'.cell? ⟨h, 0, none⟩ = some (.slice so1 n c1) ∧ w'.cell? ⟨h, 1, none⟩ = some (.slice so2 nU c2) ∧ w'.cell? ⟨h, 3, none⟩ = some (.int .i64 (nN : Int)))
        (first | go_keep | exact K8.out | exact K7.out | exact K6.out | exact K5.out)
        (first
          | (go_at_call 24; refine (unsynced_any S g D' _ H4.out.2.2.2.2.2.2.1.drew).mono ?_; rw [HL.out.1]; rintro e w5 ⟨so5, c5, rfl, ho5, hb5⟩; have K5 := Lib.hid (cells3 hb5 rfl K4.out); have B5 := Lib.hid (And.intro hb5 ho5); clear hb5 ho5)
          | (go_at_call 27; refine (ints_same (D'.U.map (·.1)) nU so5 so2 c5 c2 _ 0 _ (by rw [List.length_map, HL.out.1]) (by omega) (by have := B5.out.2; rw [unsV_nats] at this; exact this) (by have := H4.out.2.2.2.2.2.1.drew; rw [HL.out.1] at this; exact ownsRow_block this fun k hk => B5.out.1.block k (this.lt k hk).2)).mono ?_; rintro e w6 ⟨rfl, hb6⟩; have K6 := Lib.hid (cells3 hb6 rfl K5.out); have B6 := Lib.hid (bl_tr B5.out.1 hb6); clear hb6)
          | (go_at_call 28; refine (ops_any S g D' _ (H4.out.2.2.2.2.2.2.1.drew.below B6.out)).mono ?_; rw [HL.out.2]; rintro e w7 ⟨rfl, hb7⟩; have K7 := Lib.hid (cells3 hb7 rfl K6.out); have B7 := Lib.hid (bl_tr B6.out hb7); clear hb7)
          | (go_at_call 23; refine (sectors_any S g D' _ (H4.out.2.2.2.2.2.2.1.drew.below B7.out)).mono ?_; rw [H4.out.2.2.1]; rintro e w8 ⟨rfl, hb8⟩; have K8 := Lib.hid (cells3 hb8 rfl K7.out); have B8 := Lib.hid (bl_tr B7.out hb8); clear hb8))
      all_goals
        have T8 := Lib.hid (And.intro (H4.out.1.below (bl_tr (bl_dr (bl_re w4)) B8.out)) (bl_tr H4.out.2.1 (bl_tr (bl_dr (bl_re w4)) B8.out)))
        clear k0 k1 k3
        go_wp2_with fail
        go_loopw [12, 13, 14, 15, 16] (fun i _ _ _ _ wr => ∃ q : Nat, q ≤ n ∧ i = .int .i64 q ∧ Two (fun k => k < w.heap.size) wr g D' h D' ∧ Below w.heap.size w wr) (fun i _ _ _ _ _ => n - (intOf i).toNat)
        case atStart => exact ⟨0, by omega, rfl, T8.out.1, T8.out.2⟩
        case round =>
          obtain ⟨q, hq, rfl, hrest⟩ := hrel
          have HQ := Lib.hid hrest
          clear hrest
          obtain ⟨so1, c1, so2, c2, k0, _, _, _⟩ := HQ.out.1.cells
          rw [H4.out.2.2.1] at k0
          by_cases hlt : q < n
          · obtain ⟨⟨rs, re⟩, hre⟩ : ∃ r, D'.read (q : Int) = r := ⟨_, rfl⟩
            obtain ⟨zs, hzs⟩ : ∃ zs, mk rs = zs := ⟨_, rfl⟩
            have HE := Lib.hid (And.intro hre hzs)
            have j1 : (q : Int) < (n : Int) := by omega
            clear hre hzs
            go_wp2_with fail
            obtain ⟨S2, _, _, hheld, _⟩ := HQ.out.1.left
            refine (read_any S2 g D' (q : Int) _ hheld (by omega)).mono ?_
            rw [HE.out.1, HE.out.2]
            clear hheld
            rintro e w9 ⟨rfl, hb9⟩
            have T9 := Lib.hid (And.intro (HQ.out.1.below hb9) (bl_tr HQ.out.2 hb9))
            clear hb9
            go_wp2_with fail
            obtain ⟨S3, _, _, hheld, _⟩ := T9.out.1.right
            refine (rread_any S3 h D' (q : Int) _ hheld).mono ?_
            rw [HE.out.1, HE.out.2]
            clear hheld
            rintro e w10 ⟨rfl, hb10⟩
            have T10 := Lib.hid (And.intro (T9.out.1.below hb10) (bl_tr T9.out.2 hb10))
            clear hb10
            go_wp2
            exact ⟨⟨q + 1, by omega, by go_num, T10.out.1, T10.out.2⟩, by simp [intOf]; omega⟩
          · obtain rfl : q = n := by omega
            go_wp2
            exact ⟨⟨k + 1, D', by omega, by omega, by go_num, HQ.out.1, H4.out.2.2.1, H4.out.2.2.2.1, H4.out.2.2.2.2.1, HQ.out.2⟩, by simp [intOf]; omega⟩
    · have hex : ¬ (k : Int) < (n1 : Int) ∨ (k : Int) < (n1 : Int) ∧ ¬ (k : Int) < 80 := by omega
      clear hlt
      rcases hex with e1 | ⟨e1, e2⟩
      all_goals
        go_wp2
        go_ret
        exact ⟨rfl, HR.out.2.2.2.2⟩

theorem diskDoes_any (s : Int) (so : Option Addr) (n1 cap1 : Nat) (xs : List ActV) (w : World) (hs : -9223372036854775808 ≤ s ∧ s ≤ 9223372036854775807) (hn : xs.length = n1) (hn2 : n1 ≤ maxLen) (hx : ActsAt w so xs) :
    Calls Try.prog 7 #[.int .i64 s, .slice so n1 cap1] w fun e w' => e = .returned (.bool true) ∧ Below w.heap.size w w' := by
  by_cases h : s < 1 ∨ 40 < s
  · exact does_out s so n1 cap1 w h
  · obtain ⟨n, rfl⟩ : ∃ n : Nat, s = n := ⟨s.toNat, by omega⟩
    exact does_in n so n1 cap1 xs w (by omega) hn hn2 hx
end Go.Proofs.Ytmbjbckjfkijmaa
