/- package bazaarref01: Crash, Ints. -/
import Derived.Test.YtmbjbckjfkijmaaRDskD
import Derived.StillTailTactics
namespace Go.Proofs.Ytmbjbckjfkijmaa
open Go.RowKit Go.Shelf
attribute [local go_sem] Oper.semAt_some
attribute [local go_sem ↓] Go.wp_at_zero Go.wp_at_succ

theorem crash_text (p o : List UInt8) (n : Nat) (ho : o.length = 64) : (mk p).extract 0 n ++ (mk o).extract n 64 = mk (p.take n ++ o.drop n) := by
  refine ba_ext ?_
  rw [ba_append, mk_toList]
  have h1 : ((mk p).extract 0 n).data.toList = p.take n := by
    simp [mk]
  have h2 : ((mk o).extract n 64).data.toList = o.drop n := by
    simp only [mk, ByteArray.data_extract, List.extract_toArray, List.extract_eq_take_drop]
    rw [List.take_of_length_le (by rw [List.length_drop, ho]; exact Nat.le_refl _)]
  rw [h1, h2]

def inAll (l : List Int) : Bool := l.all fun x => decide (0 ≤ x) && decide (x ≤ 64)

set_option maxRecDepth 100000 in
set_option maxHeartbeats 2000000 in
theorem rcrash_no (S : Nat → Prop) (g : Nat) (D : Dk) (sk : Option Addr) (ck : Nat) (l : List Int) (w : World) (h : RHeld S w g D) (hc : IntsAt w sk l)
    (hno : D.U.length < l.length ∨ inAll l = false) :
    Calls Try.prog 48 #[.pointer (some ⟨g, 0, none⟩), .slice sk l.length ck] w fun e w' => e = .returned (.int .i64 2) ∧ Below w.heap.size w w' := by
  obtain ⟨hok, v1, v2, v3, h⟩ := h
  have hfew := hok.few
  have o2 := h.o2
  rw [List.length_map] at o2
  obtain ⟨so2, c2, rfl⟩ := own_slice o2
  have q1 : w.cell? ⟨g, 1, none⟩ = some (.slice so2 D.U.length c2) := h.blk.cell 1
  clear o2 h hok
  have HC := Lib.hid hc
  clear hc
  generalize D.U.length = nU at *
  by_cases hgt : nU < l.length
  · have e1 : (nU : Int) < (l.length : Int) := by omega
    clear hno
    go_enter Try.func48, Try.ntmps48
    go_wp2
    go_ret
    exact ⟨rfl, bl_re _⟩
  · have e1 : ¬ (nU : Int) < (l.length : Int) := by omega
    have HN := Lib.hid (hno.resolve_left hgt)
    clear hno
    go_enter Try.func48, Try.ntmps48
    go_wp2
    go_loop [5] (fun i => ∃ k : Nat, k ≤ l.length ∧ i = .int .i64 k ∧ inAll (l.take k) = true) (fun i => l.length - (intOf i).toNat)
    case atStart => exact ⟨0, Nat.zero_le _, rfl, rfl⟩
    case round =>
      obtain ⟨k, hk, rfl, hall⟩ := hrel
      by_cases hlt : k < l.length
      · obtain ⟨a, rfl, hb, hcell⟩ := HC.out k l[k] (List.getElem?_eq_getElem hlt)
        have hpre : inAll (l.take (k + 1)) = (decide (0 ≤ l[k]) && decide (l[k] ≤ 64)) := by
          unfold inAll at hall ⊢
          rw [List.take_succ_eq_append_getElem hlt, List.all_append, hall]
          simp
        have HP := Lib.hid hpre
        clear hpre hall
        generalize l[k] = x at *
        by_cases h0 : x < 0
        · go_wp2
          go_ret
          exact ⟨rfl, bl_re _⟩
        · by_cases h6 : 64 < x
          · go_wp2
            go_ret
            exact ⟨rfl, bl_re _⟩
          · go_wp2
            refine ⟨⟨k + 1, by omega, by go_num, ?_⟩, by simp [intOf]; omega⟩
            rw [HP.out]
            simp
            omega
      · exfalso
        obtain rfl : k = l.length := by omega
        rw [List.take_length, HN.out] at hall
        cases hall

set_option maxRecDepth 100000 in
set_option maxHeartbeats 4000000 in
theorem rcrash_ok (S : Nat → Prop) (g : Nat) (D : Dk) (sk : Option Addr) (ck : Nat) (l : List Int) (w : World) (h : RHeld S w g D) (hin : ∀ x ∈ l, 0 ≤ x ∧ x ≤ 64) (hc : IntsAt w sk l) (hsk : ∀ a, sk = some a → 0 < l.length → ¬ S a.block)
    (hle : l.length ≤ D.U.length) :
    Calls Try.prog 48 #[.pointer (some ⟨g, 0, none⟩), .slice sk l.length ck] w fun e w' => e = .returned (.int .i64 0) ∧ RHeld S w' g { D with S := Dk.puts D.S D.U (kept l), U := [] } ∧ Chg S w w' := by
  obtain ⟨hok, v1, v2, v3, h⟩ := h
  have hmost := hok.most
  have hfew := hok.few
  obtain ⟨so1, c1, rfl⟩ := own_slice h.o1
  have o2 := h.o2
  have o3 := h.o3
  rw [List.length_map] at o2 o3
  obtain ⟨so2, c2, rfl⟩ := own_slice o2
  obtain ⟨so3, c3, rfl⟩ := own_slice o3
  obtain ⟨b1, rfl, x1, x2⟩ := own_cell h.o1 0 _ (by rw [strs_get, List.getElem?_eq_getElem (show 0 < D.S.length from hok.one)]; rfl)
  have HH := Lib.hid (And.intro hok h)
  have HC := Lib.hid (And.intro hc (And.intro hsk hin))
  clear h o2 o3 hc hsk hin
  obtain ⟨nU, hnU⟩ : ∃ nU, D.U.length = nU := ⟨_, rfl⟩
  obtain ⟨nS, hnS⟩ : ∃ nS, D.S.length = nS := ⟨_, rfl⟩
  obtain ⟨nl, hnl⟩ : ∃ nl, l.length = nl := ⟨_, rfl⟩
  have HL := Lib.hid (And.intro hnU (And.intro hnS hnl))
  have hkl : (kept l).length = nl := by unfold kept; rw [List.length_map, hnl]
  have HK := Lib.hid hkl
  rw [hnU] at hfew HH hle
  rw [hnS] at hmost HH
  rw [hnl] at hle ⊢
  have q1 : w.cell? ⟨g, 1, none⟩ = some (.slice so2 nU c2) := HH.out.2.blk.cell 1
  have e1 : ¬ (nU : Int) < (nl : Int) := by omega
  clear x1 x2 hok hnU hnS hnl hkl
  go_enter Try.func48, Try.ntmps48
  go_wp2
  go_loop [5] (fun i => ∃ k : Nat, k ≤ nl ∧ i = .int .i64 k) (fun i => nl - (intOf i).toNat)
  case atStart => exact ⟨0, Nat.zero_le _, rfl⟩
  case round =>
    obtain ⟨k, hk, rfl⟩ := hrel
    by_cases hlt : k < nl
    · obtain ⟨x, hx⟩ : ∃ x, l[k]? = some x := ⟨_, List.getElem?_eq_getElem (by rw [HL.out.2.2]; exact hlt)⟩
      obtain ⟨a, rfl, hb, hcell⟩ := HC.out.1 k x hx
      have hx2 := HC.out.2.2 x (List.mem_of_getElem? hx)
      obtain ⟨hx3, hx4⟩ := hx2
      have i0 : ¬ x < 0 := by omega
      have i1 : ¬ 64 < x := by omega
      clear hx hx3 hx4
      go_wp2
      exact ⟨⟨k + 1, by omega, by go_num⟩, by simp [intOf]; omega⟩
    · obtain rfl : k = nl := by omega
      clear q1
      go_wp2
      go_loopw [6, 7] (fun i kk wr => ∃ q : Nat, q ≤ k ∧ i = .int .i64 q ∧ RAt S wr g (.slice (some ⟨b1, 0, none⟩) nS c1) (.slice so2 nU c2) (.slice so3 nU c3) (D.upto (kept l) q) (D.U.map (·.1)) (D.U.map (·.2)) D.N ∧ Chg S w wr) (fun i _ _ => k - (intOf i).toNat)
      case atStart =>
        refine ⟨0, by omega, rfl, ?_, Chg.refl _ _⟩
        exact HH.out.2
      case round =>
        obtain ⟨q, hq, rfl, hrest⟩ := hrel
        have HR := Lib.hid hrest
        clear hrest
        have q0 : wr.cell? ⟨g, 0, none⟩ = some (.slice (some ⟨b1, 0, none⟩) nS c1) := HR.out.1.blk.cell 0
        have q1 : wr.cell? ⟨g, 1, none⟩ = some (.slice so2 nU c2) := HR.out.1.blk.cell 1
        have q2 : wr.cell? ⟨g, 2, none⟩ = some (.slice so3 nU c3) := HR.out.1.blk.cell 2
        by_cases hlt2 : q < k
        · obtain ⟨x, hx⟩ : ∃ x, l[q]? = some x := ⟨_, List.getElem?_eq_getElem (by rw [HL.out.2.2]; exact hlt2)⟩
          have hxg : l[q]'(by rw [HL.out.2.2]; exact hlt2) = x := (List.getElem?_eq_some_iff.1 hx).2
          obtain ⟨a, rfl, hab, hcell0⟩ := HC.out.1 q x hx
          have hcell : wr.cell? (a.add q) = some (.int .i64 x) := (World.cell?_of_block (HR.out.2.block _ (by rw [ad_block]; exact hab) (by rw [ad_block]; exact HC.out.2.1 a rfl (by rw [HL.out.2.2]; omega)))).trans hcell0
          obtain ⟨n, rfl⟩ : ∃ n : Nat, x = n := ⟨x.toNat, by have := (HC.out.2.2 x (List.mem_of_getElem? hx)).1; omega⟩
          have hn64 : n ≤ 64 := by have := (HC.out.2.2 _ (List.mem_of_getElem? hx)).2; omega
          have hkU : q < D.U.length := by rw [HL.out.1]; omega
          obtain ⟨p, hp⟩ : ∃ p, D.U[q] = p := ⟨_, rfl⟩
          have hm : D.U[q]? = some p := by rw [List.getElem?_eq_getElem hkU, hp]
          obtain ⟨hp64, hp1⟩ := HH.out.1.uns p (List.mem_of_getElem? hm)
          rw [HL.out.2.1] at hp1
          have hul := upto_length D (kept l) q
          rw [HL.out.2.1] at hul
          obtain ⟨b2, rfl, s1, _⟩ := own_cell (by have := HR.out.1.o2; rw [List.length_map, HL.out.1] at this; exact this) q (.int .i64 (p.1 : Int)) (by rw [nats_get, List.getElem?_map, hm]; rfl)
          obtain ⟨b3, rfl, s2', _⟩ := own_cell (by have := HR.out.1.o3; rw [List.length_map, HL.out.1] at this; exact this) q (tx p.2) (by rw [strs_get, List.getElem?_map, hm]; rfl)
          obtain ⟨old, hold⟩ : ∃ old, (D.upto (kept l) q)[p.1]? = some old := ⟨_, List.getElem?_eq_getElem (by rw [hul]; exact hp1)⟩
          obtain ⟨_, hb, s3', s4⟩ := own_cell (by have := HR.out.1.o1; rw [hul] at this; exact this) p.1 (tx old) (by rw [strs_get, hold]; rfl)
          obtain rfl : b1 = _ := by injection (Option.some.inj hb)
          have hold64 : old.length = 64 := upto_sec D HH.out.1 (kept l) (fun n hn => by
            unfold kept at hn
            obtain ⟨x, hx, rfl⟩ := List.mem_map.1 hn
            have := HC.out.2.2 x hx
            omega) q old (List.mem_of_getElem? hold)
          have hnext : D.upto (kept l) (q + 1) = (D.upto (kept l) q).set p.1 (p.2.take n ++ old.drop n) := by
            rw [upto_snoc D (kept l) q hkU (by rw [HK.out]; exact hlt2), hp]
            have hkn : (kept l)[q]'(by rw [HK.out]; exact hlt2) = n := by
              unfold kept
              rw [List.getElem_map, hxg]
              rfl
            rw [hkn]
            unfold Dk.put
            rw [hold]
            rfl
          obtain ⟨pn, hpn⟩ : ∃ pn, p.1 = pn := ⟨_, rfl⟩
          obtain ⟨pt, hpt⟩ : ∃ pt, mk p.2 = pt := ⟨_, rfl⟩
          obtain ⟨ot, hot⟩ : ∃ ot, mk old = ot := ⟨_, rfl⟩
          have s2 : wr.cell? ⟨b3, q, none⟩ = some (.string pt) := by rw [← hpt]; exact s2'
          have s3 : wr.cell? ⟨b1, p.1, none⟩ = some (.string ot) := by rw [← hot]; exact s3'
          have z1 : pt.size = 64 := by rw [← hpt, mk_size]; exact hp64
          have z2 : ot.size = 64 := by rw [← hot, mk_size]; exact hold64
          have HP := Lib.hid (And.intro hnext (And.intro hul (And.intro hpn (And.intro hpt (And.intro hot hold64)))))
          have i1 : (0 : Int) ≤ (q : Int) := Int.natCast_nonneg _
          have i2 : (q : Int) < (nU : Int) := by omega
          have i3 : (0 : Int) ≤ (p.1 : Int) := Int.natCast_nonneg _
          have i4 : (p.1 : Int) < (nS : Int) := by omega
          have i5 : (q : Int) < (k : Int) := by omega
          have i6 : (n : Int) ≤ 64 := by omega
          have i7 : (0 : Int) ≤ (n : Int) := Int.natCast_nonneg _
          rw [hpn] at s1 s3 s4 i3 i4
          clear hnext hold hb hm hp hp64 hul hkU s2' s3' hpn hpt hot hp1 hold64 hx hxg hab hcell0 e1
          go_wp2_with fail
          go_still_tail 37, (by kernel_rfl)
          change wpList _ _ _ _ _ wr.drew
          all_goals
            go_wp2
            obtain ⟨hnext, hul, hpn, hpt, hot, hold64⟩ := HP.out
            have hr := (HR.out.1.sector (by rw [hul]) pn (p.2.take n ++ old.drop n)).drew
            unfold tx at hr
            rw [← crash_text p.2 old n hold64, hpt, hot] at hr
            refine ⟨⟨q + 1, by omega, by go_num, ?_, ?_⟩, by simp [intOf]; omega⟩
            · rw [hnext, hpn]
              exact hr
            · exact (HR.out.2.trans (Chg.ofSetCell _ _ _ (HR.out.1.s1 b1 rfl))).trans (Chg.ofNew (bl_dr (bl_re _)))
        · obtain rfl : q = k := by omega
          have f1 := HR.out.1.blk.frozen 1
          have f2 := HR.out.1.blk.frozen 2
          go_wp2
          go_ret
          have hr := (HR.out.1.clear2).clear3
          have hup : D.upto (kept l) q = Dk.puts D.S D.U (kept l) := by
            unfold Dk.upto
            rw [List.take_of_length_le (l := kept l) (by rw [HK.out]; exact Nat.le_refl _), puts_past _ _ _ _ (by rw [HK.out]; exact Nat.le_refl _)]
          rw [hup] at hr
          have hok := HH.out.1
          refine ⟨rfl, ⟨⟨?_, ?_, ?_, by simp, by simp, hok.ops⟩, _, _, _, hr⟩, HR.out.2.trans ((Chg.ofSetCell _ _ _ HR.out.1.sg).trans (Chg.ofSetCell _ _ _ HR.out.1.sg))⟩
          · show 1 ≤ (Dk.puts _ _ _).length
            rw [puts_length]; exact hok.one
          · show (Dk.puts _ _ _).length ≤ _
            rw [puts_length]; exact hok.most
          · exact puts_sec _ _ _ hok.uns (fun n hn => by
              unfold kept at hn
              obtain ⟨x, hx, rfl⟩ := List.mem_map.1 hn
              have := HC.out.2.2 x hx
              omega) hok.sec

theorem rcrash_any (S : Nat → Prop) (g : Nat) (D : Dk) (sk : Option Addr) (ck n : Nat) (l : List Int) (w : World) (h : RHeld S w g D) (hn : l.length = n) (hc : IntsAt w sk l) (hsk : ∀ a, sk = some a → 0 < l.length → ¬ S a.block) :
    Calls Try.prog 48 #[.pointer (some ⟨g, 0, none⟩), .slice sk n ck] w fun e w' => e = .returned (.int .i64 (D.crash l).1) ∧ RHeld S w' g (D.crash l).2 ∧ Chg S w w' := by
  subst hn
  by_cases hno : D.U.length < l.length ∨ (l.all fun x => decide (0 ≤ x) && decide (x ≤ 64)) = false
  · have e : D.crash l = (2, D) := by unfold Dk.crash; rw [if_pos hno]
    rw [e]
    refine (rcrash_no S g D sk ck l w h hc hno).mono ?_
    rintro e w' ⟨rfl, hb⟩
    exact ⟨rfl, h.below hb, Chg.ofNew hb⟩
  · have e : D.crash l = (0, { D with S := Dk.puts D.S D.U (kept l), U := [] }) := by unfold Dk.crash; rw [if_neg hno]
    rw [e]
    refine rcrash_ok S g D sk ck l w h (fun x hx => ?_) hc hsk (by omega)
    have hall : (l.all fun x => decide (0 ≤ x) && decide (x ≤ 64)) = true := by
      cases hb : (l.all fun x => decide (0 ≤ x) && decide (x ≤ 64)) with
      | true => rfl
      | false => exact absurd (.inr hb) hno
    have := List.all_eq_true.1 hall x hx
    simpa using this
end Go.Proofs.Ytmbjbckjfkijmaa
