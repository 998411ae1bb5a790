/- FramesJoin: the walk. -/
import Derived.Test.YtcoapmfbibjjpaaFramesB
import Derived.Test.YtcoapmfbibjjpaaJoin
import Derived.Test.YtcoapmfbibjjpaaRdRows
import Derived.Test.YtcoapmfbibjjpaaAppI
import Derived.Deep.RegionHeld3
import Derived.Deep.DrawnRows
namespace Go.Proofs.Ytcoapmfbibjjpaa
open Go.RowKit
set_option linter.unusedVariables false
set_option linter.unusedSimpArgs false
attribute [local go_sem ↓] Go.wp_at_zero Go.wp_at_succ

def Pc (L : Nat → List UInt8) (k : Nat) : List (List UInt8) := (List.range k).map L

theorem Pc_succ (L : Nat → List UInt8) (k : Nat) : Pc L (k + 1) = Pc L k ++ [L k] := by simp [Pc, List.range_succ]
theorem Pc_len (L : Nat → List UInt8) (k : Nat) : (Pc L k).length = k := by simp [Pc]

theorem okPieces_succ {L : Nat → List UInt8} {k : Nat} (h : okPieces (Pc L k)) (h1 : 1 ≤ (L k).length) (h2 : (L k).length ≤ 100) : okPieces (Pc L (k + 1)) := by
  rw [Pc_succ]
  intro p hp
  rcases List.mem_append.1 hp with h0 | h0
  · exact h p h0
  · have : p = L k := by simpa using h0
    subst this; exact ⟨h1, h2⟩

theorem joined_succ (L : Nat → List UInt8) (k : Nat) : joined (Pc L (k + 1)) = joined (Pc L k) ++ leBytes 4 ((L k).length + 4) ++ L k := by
  rw [Pc_succ, joined_append]; simp [joined]

/-- What stands at the head of each round. -/
def JoinRel (w : World) (L : Nat → List UInt8) (len : Nat) (b es i : Value) (wr : World) : Prop :=
  ∃ (vb ve : Value) (k : Nat), vb = b ∧ ve = es ∧ k ≤ len ∧ i = .int .i64 k ∧ okPieces (Pc L k) ∧ OwnB wr w.heap.size vb (joined (Pc L k)) ∧ OwnI wr w.heap.size ve (endsOf (Pc L k)) ∧ Sep vb ve ∧ Below w.heap.size w wr

theorem putLow4 (n : Nat) (hn : n ≤ 1000) (W : World) : Calls Try.prog 22 #[.int .u64 ((n : Int) + 4), .int .i64 4] W (BytesPost W (leBytes 4 (n + 4))) := by
  have := putLow_yes (n + 4) 4 (by unfold okSize; omega) (by omega) (by omega) W
  simpa using this

theorem rdf_ends {w : World} {a : Option Addr} {k : Nat} {L : Nat → List UInt8} (h : RdF w a k fun i => .int .i64 ((endsOf (Pc L k)).getD i 0)) :
    RdF w a k fun i => .int .i64 ((((spansFrom 0 (Pc L k)).getD i (0, 0)).2 : Nat) : Int) := by
  intro j hj
  obtain ⟨b, o, ha, hc⟩ := h j hj
  refine ⟨b, o, ha, ?_⟩
  rw [hc]
  simp only [endsOf_at _ _ (show j < (Pc L k).length by rw [Pc_len]; exact hj)]

set_option maxRecDepth 100000 in
set_option maxHeartbeats 4000000 in
theorem FramesJoin_core (w : World) (a : Option Addr) (len cap : Nat) (L : Nat → List UInt8) (h : RdBB w a len L) (more : Nat) (hmore : more < 256) :
    Calls Try.prog 6 #[.slice a len cap, .int .u8 (more : Nat)] w fun e w' => e = .returned (.bool true) ∧ Below w.heap.size w w' := by
  have H := Lib.hid h
  have hm := h.1
  clear h
  by_cases hl : 20 < len
  · go_enter Try.func6, Try.ntmps6
    go_wp2_with (go_at_call 15; refine (awake34 _).mono ?_; rintro e w1 ⟨rfl, hb⟩)
    go_ret
    exact ⟨rfl, hb⟩
  · go_enter Try.func6, Try.ntmps6
    go_wp2_with fail
    refine (awake34 _).mono ?_
    rintro e w1 ⟨rfl, hb⟩
    have HB1 := Lib.hid hb
    clear hb
    go_wp2_with fail
    go_loopw [5, 6, 7] (fun vb ve i wr => JoinRel w L len vb ve i wr) (fun _ _ i _ => len - (intOf i).toNat)
    case atStart => exact ⟨_, _, 0, rfl, rfl, by omega, rfl, fun p hp => by simp [Pc] at hp, World.ownsRow_nil _ _ _ _, World.ownsRow_nil _ _ _ _, Sep.nil _, HB1.out⟩
    case round =>
      obtain ⟨vb, ve, k, rfl, rfl, hk, rfl, hok, ho, he, hsep, hbl⟩ := hrel
      have HO := Lib.hid ho
      have HE := Lib.hid he
      have HS := Lib.hid hsep
      have HB := Lib.hid hbl
      have HK := Lib.hid hok
      have hsz := hbl.size
      have hjl := joined_len _ hok
      rw [Pc_len] at hjl
      clear ho he hsep hbl hok
      by_cases hlt : k < len
      · obtain ⟨b, o, ai, ci, rfl, hc0, hr0, hn0⟩ := H.out.2 k hlt
        have hbw := cell_block hc0
        simp only at hbw
        have hc1 : wr.cell? ⟨b, o + k, none⟩ = some (.slice ai (L k).length ci) := (HB.out.cell (p := ⟨b, o + k, none⟩) hbw).trans hc0
        have hqq : Hid (∀ p, ai = some p → 0 < (L k).length → vb.ownBlock ≠ some p.block) := fun p hp h0 e => by
          obtain ⟨b2, o2, ha2, hc2⟩ := hr0.at 0 h0
          have h2 := cell_block hc2
          rw [hp] at ha2
          simp only [Option.some.injEq] at ha2
          subst ha2
          have := (owns_lt HO.out _ e).1
          simp only at h2 this
          omega
        have HR := Lib.hid hr0
        have HN := Lib.hid hn0
        clear hr0 hn0 hc0
        generalize hnk : (L k).length = n at hc1 HR
        have HNK := Lib.hid hnk
        clear hnk
        by_cases h1 : n < 1
        · go_wp2_with fail
          go_ret
          exact ⟨rfl, HB.out⟩
        · by_cases h2 : 100 < n
          · go_wp2_with fail
            go_ret
            exact ⟨rfl, HB.out⟩
          · have hq : Hid (∀ p, ai = some p → vb.ownBlock ≠ some p.block) := fun p hp => hqq.out p hp (by rw [HNK.out]; omega)
            have hvb : Hid (vb.ownBlock ≠ some b) := fun e => by have := (owns_lt HO.out b e).1; omega
            have q1 : IntKind.i64.wrap ((n : Int) + 4) = (n : Int) + 4 := IntWalk.i64_in _ (by omega)
            have q2 : IntKind.u64.wrap ((n : Int) + 4) = (n : Int) + 4 := wrap_u64_of (by omega) (by omega)
            have hjl2 : (joined (Pc L k)).length ≤ 2080 := by omega
            go_wp2_with fail
            have hbl0 : Hid (Below wr.heap.size wr (wr.drewN 1)) := below_drewN wr 1 _
            have HP := Lib.hid (putLow4 n (by omega))
            go_region_held3 (fun w' => w'.cell? ⟨b, o + k, none⟩ = some (.slice ai n ci)) (first | (show World.cell? _ _ = _; assumption) | go_keep)
              (first
                | (go_at_call 22; refine (HP.out _).mono ?_; rintro e w5 ⟨v5, rfl, ho5, hb5⟩; have hc5 := cell_below hb5 hc1; have HO5 := Lib.hid (OwnB.keep (OwnB.keep HO.out (below_drewN wr 1 _)) hb5); have HE5 := Lib.hid (owns_keep (owns_keep HE.out (below_drewN wr 1 _)) hb5); have HX5 := Lib.hid ho5; have HB5 := Lib.hid (HB.out.trans ((below_drewN wr 1 _).trans (hb5.mono hsz))); have HR5 := Lib.hid (HR.out.keep HB5.out); have hs5 : wr.heap.size ≤ w5.heap.size := hb5.size; clear ho5 hb5)
                | (refine step_appB (by rfl) _ _ (by rfl) (by rfl) HO6.out (by rfl) HS6.out (by rw [List.length_append, leBytes_length, HNK.out]; omega) (by omega) ?_; intro v7 w7 ho7 ha7; have hc7 := ha7.cell hc6 (HNB6.out); have HO7 := Lib.hid ho7; have HA7 := Lib.hid ha7; have hs7 := ha7.size; clear ho7 ha7)
                | (refine step_appB (by rfl) _ _ (by rfl) (by rfl) HO5.out (by rfl) HX5.out.srcB (by rw [leBytes_length]; omega) (by omega) ?_; intro v6 w6 ho6 ha6; have hc6 := ha6.cell hc5 hvb.out; have HNB6 := Lib.hid (ha6.far hvb.out (by omega)); have HO6 := Lib.hid ho6; have HS6 : Hid (SrcB w6 (.slice ai n ci) (L k)) := ⟨ai, n, ci, rfl, RdB.chg HR5.out ha6.chg (fun p hp e => hq.out p hp e), HN.out⟩; have HA6 := Lib.hid ha6; have hs6 := ha6.size; clear ho6 ha6))
            have hj : joined (Pc L k) ++ leBytes 4 (n + 4) ++ L k = joined (Pc L (k + 1)) := by rw [joined_succ, HNK.out]
            have HE7 := Lib.hid (HA7.out.owns (HA6.out.sep HS.out HE5.out) (HA6.out.owns HS.out HE5.out))
            have HS7 := Lib.hid (HA7.out.sep (HA6.out.sep HS.out HE5.out) (HA6.out.owns HS.out HE5.out))
            have HB7 := Lib.hid (HA7.out.below (HA6.out.below HB5.out (by omega) (fun j hj => (owns_lt HO5.out j hj).1)) (by omega) (fun j hj => (owns_lt HO6.out j hj).1))
            have HO7' := HO7
            rw [hj] at HO7'
            clear hj HO7 HA6 HA7 HO5 HO6 HE5 HX5 HS6 HNB6 HR5 HR HN hq hqq hc1 hc5 hc6 hc7 HP q1 q2
            obtain ⟨a7, c7, rfl, hr7⟩ := HO7'.out.reads
            clear hr7
            have HK2 := Lib.hid (okPieces_succ HK.out (by rw [HNK.out]; omega) (by rw [HNK.out]; omega))
            have HEN := Lib.hid (endsOf_snoc (Pc L k) (L k))
            rw [← Pc_succ] at HEN
            have HEL := Lib.hid (endsOf_length (Pc L k))
            rw [Pc_len] at HEL
            have hNb := joined_len _ HK2.out
            rw [Pc_len] at hNb
            generalize hN : (joined (Pc L (k + 1))).length = N at HEN hNb HS7 HO7'
            have HNN := Lib.hid hN
            clear hN
            go_wp2_with (at_builtin; refine wpList_appI (v := ve) (sv := .slice (some ⟨w7.heap.size, 0, none⟩) 1 1) (l := [(N : Int)]) (by rfl) _ _ (by rfl) (by rfl) (HE7.out.alloc _) (by rfl) (src_int _ _ _) ?c1 ?c2 ?_)
            case c1 => rw [HEL.out]; simp; omega
            case c2 => simp; omega
            intro v8 w8 ho8 ha8
            have HO8 := Lib.hid (ha8.owns HS7.out.symm (World.ownsRow.alloc HO7'.out _))
            have HS8 := Lib.hid (ha8.sep HS7.out.symm (World.ownsRow.alloc HO7'.out _)).symm
            have HB8 := Lib.hid (ha8.below (HB7.out.alloc (by omega) _) (by simp; omega) (fun j hj => (owns_lt HE7.out j hj).1))
            have HE8 : Hid (OwnI w8 w.heap.size v8 (endsOf (Pc L (k + 1)))) := by
              show OwnI _ _ _ _
              rw [HEN.out]; exact ho8
            clear ho8 ha8
            go_wp2_with fail
            go_roundw
            case rel => exact ⟨_, _, k + 1, rfl, rfl, by omega, by simp, HK2.out, HO8.out, HE8.out, HS8.out, HB8.out⟩
            case measure => simp [intOf]; omega
      · obtain rfl : k = len := by omega
        obtain ⟨ab, cb, rfl, hrb⟩ := HO.out.reads
        have HCJ := Lib.hid (cutAll_join (Pc L k) HK.out)
        have HCM := Lib.hid (cutAll_join_more (Pc L k) (UInt8.ofNat more) HK.out)
        have HSL := Lib.hid (spansFrom_length (Pc L k) 0)
        rw [Pc_len] at HSL
        generalize hN : (joined (Pc L k)).length = N at hjl hrb HCM
        have HNN := Lib.hid hN
        have HRB := Lib.hid hrb
        clear hN hrb
        have C1 := (cut_calls ab N cb 104 wr (joined (Pc L k)) HRB.out (by omega)).mono fun _ _ h => h.reads
        rw [HCJ.out] at C1
        have HC1 := Lib.hid C1
        clear C1
        go_wp2_with fail
        refine HC1.out.mono ?_
        rintro e w2 ⟨a1, cap1, rfl, hm1, hs1, hb1⟩
        have HS1 := Lib.hid hs1
        have HB2 := Lib.hid (HB.out.trans (hb1.mono hsz))
        have HO2 := Lib.hid (OwnB.keep HO.out hb1)
        have HC1b := Lib.hid hb1
        have hs2 : wr.heap.size ≤ w2.heap.size := hb1.size
        clear hs1 hb1 hm1
        simp only [HSL.out] at HS1 ⊢
        have hlit : Hid (OwnB ((w2.alloc (.cells #[.int .i64 0, .int .i64 0, .slice none 0 0] 31)).alloc (.cells #[] 5)) (w2.heap.size + 1) (.slice (some ⟨w2.heap.size + 1, 0, none⟩) 0 0) []) := by
          have := World.ownsRow_lit (base := w2.heap.size + 1) (e := 5) (size := 1) (w2.alloc (.cells #[.int .i64 0, .int .i64 0, .slice none 0 0] 31)) #[] 0 (by simp) (by unfold maxLen; omega) rfl
          simpa [Hid, OwnB, byteCells] using this
        have HSB := Lib.hid (((OwnB.srcB HO2.out).keep ((Below.refl _ _).alloc (Nat.le_refl _) (.cells #[.int .i64 0, .int .i64 0, .slice none 0 0] 31))).keep ((Below.refl _ _).alloc (Nat.le_refl _) (.cells #[] 5)))
        rw [HNN.out] at HSB
        have HW0 : Hid (Below (w2.heap.size + 1) (w2.alloc (.cells #[.int .i64 0, .int .i64 0, .slice none 0 0] 31)) ((w2.alloc (.cells #[.int .i64 0, .int .i64 0, .slice none 0 0] 31)).alloc (.cells #[] 5))) := (Below.refl _ _).alloc (by simp) _
        go_wp2_with (at_builtin; refine wpList_appB (v := .slice (some ⟨w2.heap.size + 1, 0, none⟩) 0 0) (bs := []) (sv := .slice ab N cb) (l := joined (Pc L k)) (B := w2.heap.size + 1) (by rfl) _ _ (by rfl) (by rfl) hlit.out (by rfl) HSB.out ?o3 ?o4 ?_)
        case o3 => rw [HNN.out]; simp; omega
        case o4 => simp
        intro v3 w3 ho3 ha3
        have HO3 := Lib.hid ho3
        have HW3 := Lib.hid (ha3.below HW0.out (by simp) (fun j hj => (owns_lt hlit.out j hj).1))
        have hs3 : w2.heap.size + 2 ≤ w3.heap.size := by have := ha3.size; simpa using this
        clear ho3 ha3 HW0 hlit HSB
        go_wp2_with (at_builtin; refine wpList_appB (v := v3) (bs := joined (Pc L k)) (sv := .slice (some ⟨w3.heap.size, 0, none⟩) 1 1) (l := [UInt8.ofNat more]) (B := w2.heap.size + 1) (by rfl) _ _ (by rfl) (by rfl) (HO3.out.alloc _) (by rfl) (srcB_one w3 more hmore) ?o3 ?o4 ?_)
        case o3 => rw [HNN.out]; simp; omega
        case o4 => simp; omega
        intro v4 w4 ho4 ha4
        have HW4 := Lib.hid (ha4.below (HW3.out.alloc (by omega) _) (by simp; omega) (fun j hj => (owns_lt HO3.out j hj).1))
        have hs4 : w3.heap.size + 1 ≤ w4.heap.size := by have := ha4.size; simpa using this
        obtain ⟨a4, c4, hv4, hr4⟩ := ho4.reads
        have hM1 : (joined (Pc L k) ++ [UInt8.ofNat more]).length ≤ 10000 := by rw [List.length_append, HNN.out]; simp; omega
        generalize (joined (Pc L k) ++ [UInt8.ofNat more]).length = M at hv4 hr4 hM1
        rw [hv4]
        have C2 := (cut_calls a4 M c4 104 w4 _ hr4 (by omega)).mono fun _ _ h => h.reads
        rw [HCM.out] at C2
        have HC2 := Lib.hid C2
        clear C2 ho4 ha4 hr4 hv4
        go_wp2_with fail
        refine HC2.out.mono ?_
        rintro e w5 ⟨a2, cap2, rfl, hm2, hs5, hb5⟩
        have HS5 := Lib.hid (hs5.alloc (.cells #[.int .i64 2, .int .i64 N, .slice none 0 0] 31))
        have hsz5 : w4.heap.size ≤ w5.heap.size := hb5.size
        have hW5 : Below (w2.alloc (.cells #[.int .i64 0, .int .i64 0, .slice none 0 0] 31)).heap.size (w2.alloc (.cells #[.int .i64 0, .int .i64 0, .slice none 0 0] 31)) w5 := by
          have e : (w2.alloc (.cells #[.int .i64 0, .int .i64 0, .slice none 0 0] 31)).heap.size = w2.heap.size + 1 := by simp
          rw [e]
          exact HW4.out.trans (hb5.mono (by omega))
        obtain ⟨f0, f1, f2, f3⟩ := fault_cells hW5
        have hb25 : Below w2.heap.size w2 (w5.alloc (.cells #[.int .i64 2, .int .i64 N, .slice none 0 0] 31)) := (((Below.refl _ _).alloc (Nat.le_refl _) _).trans (hW5.mono (by simp))).alloc (by omega) _
        have HS1' := Lib.hid (HS1.out.keep hb25)
        have HE5 := Lib.hid (owns_keep (owns_keep HE.out (HC1b.out)) hb25)
        have hfin := Lib.hid (HB2.out.trans (hb25.mono (by have := HB.out.size; omega)))
        clear hs5 hb5 hm2 hW5 hb25
        simp only [HSL.out] at HS5 ⊢
        obtain ⟨ae, ce, hve, hml, hre⟩ := OwnI.reads HE5.out
        rw [endsOf_length, Pc_len] at hve hre
        subst hve
        have HRE := Lib.hid (rdf_ends hre)
        clear hml hre HE5 HE
        go_wp2_with fail
        generalize w5.alloc (.cells #[.int .i64 2, .int .i64 N, .slice none 0 0] 31) = w6 at HS5 HS1' HRE hfin ⊢
        clear f0 f1 f2 f3
        go_loopw [12] (fun i wx => ∃ j : Nat, j ≤ k ∧ i = .int .i64 j ∧ ∃ nd, wx = w6.drewN nd) (fun i _ => k - (intOf i).toNat)
        case atStart => exact ⟨0, by omega, rfl, 0, rfl⟩
        case round =>
          obtain ⟨j, hj, rfl, nd, rfl⟩ := hrel
          by_cases hlt : j < k
          · obtain ⟨b1, o1, rfl, d1, d1'⟩ := HS1'.out j (by rw [HSL.out]; exact hlt)
            obtain ⟨b2, o2, rfl, d2, d2'⟩ := HS5.out j (by rw [HSL.out]; exact hlt)
            obtain ⟨b3, o3, rfl, d3⟩ := HRE.out j hlt
            simp only at d3
            generalize ((spansFrom 0 (Pc L k)).getD j (0, 0)).1 = x at d1 d2
            generalize ((spansFrom 0 (Pc L k)).getD j (0, 0)).2 = y at d1' d2' d3
            have d1'' : w6.cell? ⟨b1, o1 + j * 2 + 1, none⟩ = some (.int .i64 y) := by rw [Nat.add_assoc]; exact d1'
            have d2'' : w6.cell? ⟨b2, o2 + j * 2 + 1, none⟩ = some (.int .i64 y) := by rw [Nat.add_assoc]; exact d2'
            go_wp2
            go_quiet (fail)
            go_wp2
            go_roundw
            case rel => exact ⟨j + 1, by omega, by simp, by first | exact ⟨_, rfl⟩ | exact drew_more⟩
            case measure => simp [intOf]; omega
          · go_wp2
            go_ret
            exact ⟨rfl, Below_drewN hfin.out⟩
theorem wf_u8 {n : Int} (h : (Lit.int .u8 n).wf = true) : 0 ≤ n ∧ n < 256 := by
  have : 0 ≤ n ∧ n ≤ 255 := by simpa [Lit.wf, IntKind.min, IntKind.max, IntKind.signed, IntKind.bits] using h
  omega

theorem FramesJoin_walk (w : World) (a : Option Addr) (len cap : Nat) (L : Nat → List UInt8) (h : RdBB w a len L) (more : Int) (hm : (Lit.int .u8 more).wf = true) :
    Calls Try.prog 6 #[.slice a len cap, .int .u8 more] w fun e w' => e = .returned (.bool true) ∧ Below w.heap.size w w' := by
  have hw := wf_u8 hm
  obtain ⟨n, rfl⟩ : ∃ n : Nat, more = n := ⟨more.toNat, by omega⟩
  exact FramesJoin_core w a len cap L h n (by omega)

end Go.Proofs.Ytcoapmfbibjjpaa
