/- ShaPieces: the walk. -/
import Derived.Test.YtachnjdmjifefaaSha6
import Derived.Test.YtachnjdmjifefaaArgK
namespace Go.Proofs.Ytachnjdmjifefaa
open Go Go.RowKit
set_option linter.unusedVariables false
set_option linter.unusedSimpArgs false
attribute [local go_sem] bmax2 bmin2 bmax bmin cell_ext frozen_ext

/-- the first k pieces, joined -/
def joinT (l : List ByteArray) (k : Nat) : List UInt8 := ((l.take k).map bs).flatten
theorem joinT_succ (l : List ByteArray) (k : Nat) (s : ByteArray) (h : l[k]? = some s) : joinT l (k + 1) = joinT l k ++ bs s := by
  unfold joinT
  rw [List.take_add_one, h, List.map_append, List.flatten_append]
  simp
theorem joinT_le (l : List ByteArray) (B : Nat) (h : ∀ s ∈ l, s.size ≤ B) : ∀ k, (joinT l k).length ≤ k * B
  | 0 => by simp [joinT]
  | k + 1 => by
    have ih := joinT_le l B h k
    rw [Nat.succ_mul]
    cases hk : l[k]? with
    | none =>
      have : joinT l (k + 1) = joinT l k := by unfold joinT; rw [List.take_add_one, hk]; simp
      rw [this]; omega
    | some s =>
      rw [joinT_succ l k s hk, List.length_append]
      have := h s (List.mem_of_getElem? hk)
      rw [size_bs]; omega
theorem joinT_mono (l : List ByteArray) (k : Nat) : (joinT l k).length ≤ (joinT l l.length).length := by
  have h : joinT l l.length = joinT l k ++ ((l.drop k).map bs).flatten := by
    unfold joinT
    rw [← List.flatten_append, ← List.map_append, List.take_append_drop, List.take_of_length_le (Nat.le_refl _)]
  rw [h, List.length_append]; omega

set_option maxHeartbeats 4000000 in
set_option maxRecDepth 100000 in
theorem ShaPieces_walk (w : World) (ad : Option Addr) (c : Nat) (l : List ByteArray) (hb : l.length ≤ maxLen ∧ (∀ s ∈ l, s.size ≤ reachBytes) ∧ (l ≠ [] → ∃ b o, ad = some ⟨b, o, none⟩ ∧ b < w.heap.size ∧ HoldsT w b o l)) :
    Calls Try.prog 5 #[.slice ad l.length c] w fun e w' => e = .returned (.bool true) ∧ Below w.heap.size w w' := by
  obtain ⟨hml, hsz, hcells⟩ := hb
  have hml2 : l.length ≤ 9223372036854775807 := hml
  have HC := kp hcells
  have HSZ := kp hsz
  clear hml hsz hcells
  by_cases hl40 : (40 : Int) < (l.length : Int)
  · have g40 : decide ((40 : Int) < (l.length : Int)) = true := decide_eq_true hl40
    go_enter Try.func5, Try.ntmps5
    go_wp2_with fail
    refine (sha_awake w).mono ?_
    rintro e w1 ⟨rfl, hb⟩
    have HB := kp hb
    clear hb
    go_wp2
    go_loop [3, 12] (fun n i => ∃ (k : Nat) (x : Int), k ≤ l.length ∧ i = .int .i64 k ∧ n = .int .i64 x) (fun _ i => l.length - (intOf i).toNat)
    case atStart => exact ⟨0, 0, by omega, rfl, rfl⟩
    case round =>
      obtain ⟨k, x, hk, rfl, rfl⟩ := hrel
      by_cases hlt : k < l.length
      · have hlt' : (k : Int) < (l.length : Int) := by omega
        have i2 : (0 : Int) ≤ (k : Int) := by omega
        obtain ⟨b, o, rfl, hbw, hh⟩ := HC.out (by intro e; subst e; simp at hlt)
        have hs := hh k _ (List.getElem?_eq_getElem hlt)
        have hs1 := HB.out.cell (p := ⟨b, o + k, none⟩) hbw
        rw [hs] at hs1
        have HH := kp hh
        clear hs hh
        generalize l[k] = s at hs1
        go_wp2
        go_round
        case measure => simp [intOf]; omega
        case rel => exact ⟨k + 1, _, by omega, by go_num, rfl⟩
      · obtain rfl : k = l.length := by omega
        go_wp2
        go_ret
        exact ⟨rfl, HB.out⟩
  have g40 : decide ((40 : Int) < (l.length : Int)) = false := decide_eq_false hl40
  have hl : l.length ≤ 40 := by omega
  have HM := kp (joinT_mono l)
  have HJ := kp (fun k hk => Nat.le_trans (joinT_le l reachBytes HSZ.out k) (show k * reachBytes ≤ 40 * reachBytes from Nat.mul_le_mul_right _ hk))
  have hr : reachBytes = 140737488351232 := rfl
  rw [hr] at HJ
  clear hr
  by_cases hn : 1024 < (joinT l l.length).length
  case' pos =>
    have hn' : (1024 : Int) < ((joinT l l.length).length : Int) := by omega
  case' neg =>
    have hn' : ¬ (1024 : Int) < ((joinT l l.length).length : Int) := by omega
    have gn : decide ((1024 : Int) < ((joinT l l.length).length : Int)) = false := decide_eq_false hn'
    have HN := kp hn
    have HKey := kp (fun w' => Key_st (joinT l l.length) (by omega) w')
    have HSum := kp (fun w' => Sum_st (str (joinT l l.length)) (by rw [str_size]; omega) w')
    have HMore := kp (fun w' => More_st (joinT l l.length) ⟨#[]⟩ (by show _ + 0 ≤ _; omega) w')
    rw [show joinT l l.length ++ bs ⟨#[]⟩ = joinT l l.length from List.append_nil _] at HMore
    rw [bs_str] at HSum
    have e1 := eq_dig
    have gk := guard_key
  all_goals
    clear hn
    go_enter Try.func5, Try.ntmps5
    go_wp2_with fail
    refine (sha_awake w).mono ?_
    rintro e w1 ⟨rfl, hb⟩
    have HB := kp hb
    clear hb
    go_upto_region 9 with (fail)
    go_loop [3, 12] (fun n i => ∃ (k : Nat), k ≤ l.length ∧ i = .int .i64 k ∧ n = .int .i64 ((joinT l k).length : Int)) (fun _ i => l.length - (intOf i).toNat)
    case atStart => exact ⟨0, by omega, rfl, rfl⟩
    case round =>
      obtain ⟨k, hk, rfl, rfl⟩ := hrel
      by_cases hlt : k < l.length
      · have hlt' : (k : Int) < (l.length : Int) := by omega
        have i2 : (0 : Int) ≤ (k : Int) := by omega
        obtain ⟨b, o, rfl, hbw, hh⟩ := HC.out (by intro e; subst e; simp at hlt)
        have hs := hh k _ (List.getElem?_eq_getElem hlt)
        have hs1 := HB.out.cell (p := ⟨b, o + k, none⟩) hbw
        rw [hs] at hs1
        have hjs := congrArg List.length (joinT_succ l k _ (List.getElem?_eq_getElem hlt))
        rw [List.length_append, size_bs] at hjs
        have hjb := HJ.out (k + 1) (by omega)
        have hsz := HSZ.out l[k] (List.getElem_mem hlt)
        have q1 : ((joinT l k).length : Int) + (l[k].size : Int) ≤ 5629499534049280 := by omega
        have q0 : (0 : Int) ≤ ((joinT l k).length : Int) := by omega
        have HJS := kp hjs
        clear hs hh hjs hjb hsz
        obtain ⟨s, hs⟩ : ∃ s, l[k] = s := ⟨_, rfl⟩
        rw [hs] at hs1 q1 HJS
        clear hs
        go_wp2
        go_round
        case measure => simp [intOf]; omega
        case rel => exact ⟨k + 1, by omega, by go_num, congrArg _ (by have := HJS.out; omega)⟩
      · obtain rfl : k = l.length := by omega
        clear HJ HM
        go_upto_region 13 with (fail)
        first
        | (go_ret; exact ⟨rfl, HB.out⟩)
        |
          refine (New_st _).mono ?_
          rintro e w2 ⟨rfl, hb2⟩
          have SC := fun (cur : Array Value) (h : cur.size = 11) => sc_new (P := Try.prog) w2 34 (stLm []) (stLm_one _) cur h
          have hl11 := stLm_len []
          have K5 : Kp (Blk (w2.alloc (.cells (stLm []).toArray 34)) w2.heap.size 34 (stLm (joinT l 0)).toArray) := kp (Blk.new w2 34 (stLm []).toArray)
          have HB2 := kp (ba (bt' HB.out hb2 HB.out.size) (.cells (stLm []).toArray 34))
          have hw2 : w.heap.size ≤ w2.heap.size := (bt' HB.out hb2 HB.out.size).size
          have HJ := kp (joinT_mono l)
          clear hb2 HB
          go_wp2_with fail
          clear SC hl11
          generalize (w2.alloc (.cells (stLm []).toArray 34)) = W2 at K5 HB2 ⊢
          generalize w2.heap.size = b5 at K5 hw2 ⊢
          go_loopw [6, 33] (fun t i wr => ∃ k : Nat, k ≤ l.length ∧ i = .int .i64 k ∧ t = .string (str (joinT l k)) ∧ Kp (Blk wr b5 34 (stLm (joinT l k)).toArray) ∧ Kp (Below w.heap.size w wr)) (fun _ i _ => l.length - (intOf i).toNat)
          case atStart => exact ⟨0, by omega, rfl, rfl, K5, HB2⟩
          case round =>
            clear K5 HB2
            obtain ⟨k, hk, rfl, rfl, h5, hb⟩ := hrel
            by_cases hlt : k < l.length
            · have hlt' : (k : Int) < (l.length : Int) := by omega
              have i2 : (0 : Int) ≤ (k : Int) := by omega
              obtain ⟨b, o, rfl, hbw, hh⟩ := HC.out (by intro e; subst e; simp at hlt)
              have hs := hh k _ (List.getElem?_eq_getElem hlt)
              have hs1 := hb.out.cell (p := ⟨b, o + k, none⟩) hbw
              rw [hs] at hs1
              have hjs := joinT_succ l k _ (List.getElem?_eq_getElem hlt)
              have hjl := congrArg List.length hjs
              rw [List.length_append, size_bs] at hjl
              have hjb := HJ.out (k + 1)
              have q1 : (joinT l k).length ≤ 1024 := by have := HN.out; omega
              have q2 : l[k].size ≤ 1024 := by have := HN.out; omega
              have MO := kp (fun w' => More_st (joinT l k) l[k] (by omega) w')
              rw [← hjs] at MO
              have SZ := kp (Size_st (joinT l (k + 1)))
              have hst : str (joinT l k) ++ l[k] = str (joinT l (k + 1)) := by rw [hjs, ← str_append, str_bs]
              have hsz2 : ((str (joinT l (k + 1))).size : Int) = ((joinT l (k + 1)).length : Int) := by rw [str_size]
              have q3 : (str (joinT l k)).size ≤ 1024 := by rw [str_size]; exact q1
              have HJS := kp hjs
              have hbb : b < wr.heap.size := Nat.lt_of_lt_of_le hbw hb.out.size
              have h5l := h5.out.lt
              clear hs hh hjs hjb hjl q1
              obtain ⟨s, hs⟩ : ∃ s, l[k] = s := ⟨_, rfl⟩
              rw [hs] at hs1 q2 MO hst
              clear hs
              have LS := kp (fun x => ldS (joinT l k) (h5.out.bel (ext_below wr x)))
              go_wp2_with fail
              refine wp_region_ext [0, 1, 2, 3, 4, 5] [6] (by kernel_rfl) (by kernel_rfl) ?_
              simp only [List.map_cons, List.map_nil, List.getD_cons_succ, List.getD_cons_zero]
              repeat (first
                | (go_big_quiet_want; refine quiet_load _ rfl 34 _ rfl rfl (fun w hw => by obtain ⟨x, rfl⟩ := hw; exact LS.out x) ?_; go_simp; go_big_quiet_on)
                | go_big_quiet_step ((go_at_call 24; with_reducible exact Calls.ext_of (MO.out _))))
              refine wpQuiet_nil ?_
              rintro z
              have hz5 := h5.out.bel (ext_below wr z)
              have hzb := bt' hb.out (ext_below wr z) hb.out.size
              have hzs := hzb.cell (p := ⟨b, o + k, none⟩) hbw
              have hs0 := hb.out.cell (p := ⟨b, o + k, none⟩) hbw
              rw [hs1] at hs0
              rw [← hs0] at hzs
              have SC := sc_all (P := Try.prog) (w := wr.ext z) b5 34 (stLm (joinT l (k + 1))) _ hz5 rfl (stLm_one _)
              have hl11 := stLm_len (joinT l (k + 1))
              have hne : b ≠ b5 := by omega
              have hg := gbrow (wr.ext z) b5 (stLm (joinT l (k + 1))).toArray
              have hys := gbcell hg hzs hne
              have HY5 := kp (hz5.row (stLm (joinT l (k + 1))).toArray)
              have HYB := kp (bsr hzb (b := b5) hw2 hzb.size (stLm (joinT l (k + 1))).toArray)
              clear hz5 hzb hzs hs0 hg h5 hb hs1
              generalize (wr.ext z).setRow b5 (stLm (joinT l (k + 1))).toArray = Y at SC hys HY5 HYB
              have LY := ldS (joinT l (k + 1)) HY5.out
              go_wp2_with (refine wpL_load rfl 34 _ rfl rfl LY ?_)
              refine (SZ.out _).mono ?_
              rintro e w5 ⟨rfl, hb5⟩
              have HZ5 := kp (HY5.out.bel hb5)
              have HZB := kp (bt' HYB.out hb5 HYB.out.size)
              clear hb5 HY5 HYB LY SC hys
              go_wp2
              go_roundw
              case measure => simp [intOf]; omega
              case rel => exact ⟨k + 1, by omega, by go_num, rfl, HZ5, HZB⟩
            · obtain rfl : k = l.length := by omega
              have hzz : (str (joinT l l.length)).size ≤ 1024 := by rw [str_size]; have := HN.out; omega
              have LS := kp (fun x => ldS (joinT l l.length) (h5.out.bel (ext_below wr x)))
              go_wp2
              refine wp_region_ext [0, 1, 2, 3, 4, 5, 6, 7, 8, 9, 10, 11, 12] [13] (by kernel_rfl) (by kernel_rfl) ?_
              simp only [List.map_cons, List.map_nil, List.getD_cons_succ, List.getD_cons_zero]
              repeat (first
                | (go_big_quiet_want; refine quiet_load _ rfl 34 _ rfl rfl (fun w hw => by obtain ⟨x, rfl⟩ := hw; exact LS.out x) ?_; go_simp; go_big_quiet_on)
                | go_big_quiet_step (first | (go_at_call 24; with_reducible exact Calls.ext_of (HMore.out _)) | (go_at_call 26; with_reducible exact Calls.ext_of (HKey.out _)) | (go_at_call 17; with_reducible exact Calls.ext_of (HSum.out _))))
              refine wpQuiet_nil ?_
              rintro z
              go_wp2
              go_ret
              exact ⟨rfl, bt' hb.out (ext_below wr z) hb.out.size⟩
end Go.Proofs.Ytachnjdmjifefaa
