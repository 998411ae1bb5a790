/- BaseSpoilt: the walk. -/
import Derived.Test.YtolmeimipchndaaBaseF
import Derived.Laws.IdiomStrings
import Derived.Test.YtolmeimipchndaaOpen2
namespace Go.Proofs.Ytolmeimipchndaa
open Go.RowKit
set_option linter.unusedVariables false
set_option linter.unusedSimpArgs false

/-- Each sign of a text is one, or '='. -/
theorem b64_mem : ∀ (t : List UInt8) (c : UInt8), c ∈ b64 t → c = 61 ∨ ∃ i, i < 64 ∧ c = sg i
  | x :: y :: z :: r, c, h => by
    have b1 := x.toNat_lt; have b2 := y.toNat_lt; have b3 := z.toNat_lt
    simp only [b64, List.mem_cons] at h
    rcases h with h | h | h | h | h
    · exact .inr ⟨_, by omega, h⟩
    · exact .inr ⟨_, by omega, h⟩
    · exact .inr ⟨_, by omega, h⟩
    · exact .inr ⟨_, by omega, h⟩
    · exact b64_mem r c h
  | [x, y], c, h => by
    have b1 := x.toNat_lt; have b2 := y.toNat_lt
    simp only [b64, List.mem_cons, List.not_mem_nil, or_false] at h
    rcases h with h | h | h | h
    · exact .inr ⟨_, by omega, h⟩
    · exact .inr ⟨_, by omega, h⟩
    · exact .inr ⟨_, by omega, h⟩
    · exact .inl h
  | [x], c, h => by
    have b1 := x.toNat_lt
    simp only [b64, List.mem_cons, List.not_mem_nil, or_false] at h
    rcases h with h | h | h | h
    · exact .inr ⟨_, by omega, h⟩
    · exact .inr ⟨_, by omega, h⟩
    · exact .inl h
    · exact .inl h
  | [], c, h => by simp [b64] at h

theorem no_len {s : ByteArray} (h : s.size % 4 ≠ 0) : ∀ t, b64 t ≠ sl s := by
  intro t e
  have := congrArg List.length e
  rw [b64_len, sl_len] at this
  omega

theorem no_sign {s : ByteArray} {c : UInt8} (hm : c ∈ sl s) (h1 : c ≠ 61) (h2 : unI (c.toNat : Nat) < 0) : ∀ t, b64 t ≠ sl s := by
  intro t e
  rw [← e] at hm
  rcases b64_mem t c hm with h | ⟨i, hi, rfl⟩
  · exact h1 h
  · rw [un_sg hi] at h2; omega

/-- A text as bytes: a new row. -/
theorem conv_bytes (w : World) (s : ByteArray) (hs : s.size ≤ 1000000) : ∃ cap w', (convert 9 22 (.string s)).run Try.prog w = .ok (.slice (some ⟨w.heap.size, 0, none⟩) s.size cap) w' ∧ Below w.heap.size w w' ∧ w.heap.size < w'.heap.size ∧
    RdB w' (some ⟨w.heap.size, 0, none⟩) s.size (sl s) ∧ s.size ≤ cap ∧ ∀ j, j < s.size → w'.frozen? ⟨w.heap.size, j, none⟩ = false := by
  have hr := run_bytes_of_string (P := Try.prog) w 9 22 5 s Try.underlying9 Try.underlying22 Try.underlying5
  have hcap := grownCap_ge w s.size 0 5
  generalize grownCap w s.size 0 5 = cap at hr hcap
  have hbs : (bytesRow s cap).size = cap := by unfold bytesRow; simp; omega
  rw [hbs] at hr
  have hn : (w.drew.alloc (.cells (bytesRow s cap) 5 (cap, cap + 1))).heap[w.heap.size]? = some (.cells (bytesRow s cap) 5 (cap, cap + 1)) := heap_alloc_new w.drew _
  refine ⟨cap, _, hr, ((Below.refl w.heap.size w).drew).alloc (Nat.le_refl _) _, by simp, ⟨sl_len s, ?_, fun i hi => ⟨w.heap.size, 0, rfl, ?_⟩⟩, hcap, fun j hj => ?_⟩
  · omega
  · rw [Nat.zero_add, cell_of_row _ w.heap.size i _ _ _ hn]
    have h1 : i < (sl s).length := by rw [sl_len]; exact hi
    have e : (bytesRow s cap)[i]? = some (.int .u8 (((sl s)[i]'h1).toNat : Nat)) := by
      unfold bytesRow
      rw [Array.getElem?_append_left (by simpa using hi)]
      rw [Array.getElem?_map]
      have h2 : s.data[i]? = some ((sl s)[i]'h1) := by
        rw [Array.getElem?_eq_getElem (by simpa using hi)]
        rfl
      rw [h2]
      rfl
    rw [e]
    simp only [bAt, List.getD_eq_getElem?_getD, List.getElem?_eq_getElem h1, Option.getD_some]
  · unfold World.frozen?
    simp only [hn]
    simp
    omega

/-- A byte is set. -/
theorem rd_set {w : World} {b n j : Nat} {l : List UInt8} {u : Value} (h : RdB w (some ⟨b, 0, none⟩) n l) (hc : w.cell? ⟨b, j, none⟩ = some u) (y : UInt8) :
    ∀ (W : World), (∀ i, W.cell? ⟨b, i, none⟩ = w.cell? ⟨b, i, none⟩) → RdB (W.setCell ⟨b, j, none⟩ (.int .u8 (y.toNat : Nat))) (some ⟨b, 0, none⟩) n (l.set j y) := by
  intro W hW
  refine ⟨by rw [List.length_set]; exact h.1, h.2.1, fun i hi => ⟨b, 0, rfl, ?_⟩⟩
  rw [Nat.zero_add]
  have hl := h.1
  by_cases e : i = j
  · subst e
    rw [World.cell?_setCell_same _ _ _ ((hW i).trans hc)]
    simp [bAt, List.getD_eq_getElem?_getD, List.getElem?_set, show i < l.length by omega]
  · rw [World.cell?_setCell_other _ _ _ _ (by simp; first | done | omega), hW]
    obtain ⟨b', o', ha, hcc⟩ := h.at i hi
    simp only [Option.some.injEq, Addr.mk.injEq, and_true] at ha
    obtain ⟨rfl, rfl⟩ := ha
    rw [Nat.zero_add] at hcc
    rw [hcc]
    simp [bAt, List.getD_eq_getElem?_getD, List.getElem?_set, Ne.symm e]

set_option maxRecDepth 100000 in
set_option maxHeartbeats 8000000 in
theorem BaseSpoilt_walk (w : World) (a : Option Addr) (len cap : Nat) (l : List UInt8) (h : RdB w a len l) (hnc : a = none → cap = 0) (hcc : len ≤ cap) (p : Int) (hp : (Lit.int .i64 p).wf = true) (by' : Int) (hby : (Lit.int .u8 by').wf = true) :
    Calls Try.prog 9 #[.slice a len cap, .int .i64 p, .int .u8 by'] w fun e w' => e = .returned (.bool true) ∧ Below w.heap.size w w' := by
  have H := Lib.hid h
  have HL := Lib.hid h.1
  have hm := h.2.1
  have hp' := wf_i64 hp
  have hb0 : 0 ≤ by' ∧ by' ≤ 255 := by simpa [Lit.wf, IntKind.min, IntKind.max, IntKind.signed, IntKind.bits] using hby
  clear h hp hby
  by_cases h1 : len < 1
  · have d1 : decide ((len : Int) < 1) = true := by simp; omega
    go_enter Try.func9, Try.ntmps9
    go_wp2_with (go_at_call 23; refine (awake4 _).mono ?_; rintro e w1 ⟨rfl, hb⟩)
    go_ret
    exact ⟨rfl, hb⟩
  have d1 : decide ((len : Int) < 1) = false := by simp; omega
  by_cases h2 : 300 < len
  · have d2 : decide ((300 : Int) < (len : Int)) = true := by simp; omega
    go_enter Try.func9, Try.ntmps9
    go_wp2_with (go_at_call 23; refine (awake4 _).mono ?_; rintro e w1 ⟨rfl, hb⟩)
    go_ret
    exact ⟨rfl, hb⟩
  have d2 : decide ((300 : Int) < (len : Int)) = false := by simp; omega
  by_cases h3 : p < 0
  · have d3 : decide (p < 0) = true := by simp; omega
    go_enter Try.func9, Try.ntmps9
    go_wp2_with (go_at_call 23; refine (awake4 _).mono ?_; rintro e w1 ⟨rfl, hb⟩)
    go_ret
    exact ⟨rfl, hb⟩
  have d3 : decide (p < 0) = false := by simp; omega
  by_cases h4 : (48 ≤ by' ∧ by' ≤ 57) ∨ (97 ≤ by' ∧ by' ≤ 122) ∨ (65 ≤ by' ∧ by' ≤ 90) ∨ by' = 43 ∨ by' = 47 ∨ by' = 61
  · clear h1 h2 h3
    rcases h4 with ⟨g1, g2⟩ | ⟨g1, g2⟩ | ⟨g1, g2⟩ | rfl | rfl | rfl
    all_goals
      go_enter Try.func9, Try.ntmps9
      go_wp2_with (go_at_call 23; refine (awake4 _).mono ?_; rintro e w1 ⟨rfl, hb⟩)
      go_ret
      exact ⟨rfl, hb⟩
  · have hiv : (by' < 43) ∨ (43 < by' ∧ by' < 47) ∨ (57 < by' ∧ by' < 61) ∨ (61 < by' ∧ by' < 65) ∨ (90 < by' ∧ by' < 97) ∨ 122 < by' := by omega
    have e1 : (by' == 43) = false := by simp; omega
    have e2 : (by' == 47) = false := by simp; omega
    have e3 : (by' == 61) = false := by simp; omega
    have hun : unI by' < 0 := by
      unfold unI
      (repeat' split) <;> omega
    obtain ⟨yn, rfl⟩ : ∃ yn : Nat, by' = yn := ⟨by'.toNat, by omega⟩
    obtain ⟨y, rfl⟩ : ∃ y : UInt8, yn = y.toNat := ⟨UInt8.ofNat yn, by simp; omega⟩
    obtain ⟨q, rfl⟩ : ∃ q : Nat, p = q := ⟨p.toNat, by omega⟩
    have hne : y ≠ 61 := fun e => h4 (by subst e; decide)
    have HT := Lib.hid (fun W hW => text_calls a len cap l W hW hcc (by omega))
    have hsz : (txt (b64 l)).size = (len + 2) / 3 * 4 := by rw [txt_size, b64_len, HL.out]
    generalize txt (b64 l) = tx at HT hsz
    obtain ⟨n, hn⟩ : ∃ n : Nat, n = (len + 2) / 3 * 4 := ⟨_, rfl⟩
    rw [← hn] at hsz
    have hn4 : 4 ≤ n := by omega
    have hnm : n % 4 = 0 := by omega
    have hnb : n ≤ 404 := by omega
    obtain ⟨j, hj⟩ : ∃ j : Nat, j = q % n := ⟨_, rfl⟩
    have hjn : j < n := by rw [hj]; exact Nat.mod_lt _ (by omega)
    have hq : (q : Int) % (n : Int) = (j : Int) := by rw [hj]; omega
    have HSN := Lib.hid hsz
    have s1 : (sl (tx ++ ⟨#[65]⟩)).length = n + 1 := by rw [sl_len, ByteArray.size_append, hsz]; rfl
    have HN1 := Lib.hid (bytes_no (tx ++ ⟨#[65]⟩) (by rw [← sl_len, s1]; omega) (no_len (by rw [← sl_len, s1]; omega)))
    have s2 : (txt ((sl tx).drop 1)).size = n - 1 := by rw [txt_size, List.length_drop, sl_len, hsz]
    have HN2 := Lib.hid (bytes_no (txt ((sl tx).drop 1)) (by omega) (no_len (by omega)))
    have s3 : (txt ((sl tx).set j y)).size = n := by rw [txt_size, List.length_set, sl_len, hsz]
    have HN3 := Lib.hid (bytes_no (txt ((sl tx).set j y)) (by omega) (no_sign (c := y) (by rw [sl_txt]; exact List.mem_iff_getElem?.2 ⟨j, by rw [List.getElem?_set]; simp [sl_len, hsz, hjn]⟩) hne hun))
    clear h1 h2 h3 h4 hn hj hsz s1 s2 s3 hun hne hnm
    rcases hiv with g1 | ⟨g1, g2⟩ | ⟨g1, g2⟩ | ⟨g1, g2⟩ | ⟨g1, g2⟩ | g1
    all_goals
      go_enter Try.func9, Try.ntmps9
      go_wp2_with fail
      refine (awake4 _).mono ?_
      rintro e w1 ⟨rfl, hb1⟩
      have HB1 := Lib.hid hb1
      clear hb1
      go_wp2_with fail
      refine (HT.out _ (H.out.keep HB1.out)).mono ?_
      rintro e w2 ⟨rfl, hb2⟩
      have HB2 := Lib.hid (HB1.out.trans (hb2.mono HB1.out.size))
      clear hb2
      have e1 : tx.size = n := HSN.out
      obtain ⟨cap3, w3, hrun, hb3, hs3, hr3, hc3, hf3⟩ := conv_bytes w2 tx (by omega)
      have hts : tx.size ≤ 404 := by omega
      have HKA := Lib.hid (fun (W : World) (hW : Below w3.heap.size w3 W) => conv_str (hr3.keep hW) cap3)
      have HKB := Lib.hid (fun (W : World) (hW : Below w3.heap.size w3 W) => conv_str (rd_drop (hr3.keep hW) 1 (by omega)) (cap3 - 1))
      have hcell : w3.cell? ⟨w2.heap.size, j, none⟩ = some (.int .u8 (bAt (sl tx) j : Nat)) := by
        obtain ⟨b, o, ha, hc⟩ := hr3.at j (by omega)
        simp only [Option.some.injEq, Addr.mk.injEq, and_true] at ha
        obtain ⟨rfl, rfl⟩ := ha
        simpa using hc
      have HFJ := Lib.hid (hf3 j (by omega))
      have hset := rd_set hr3 hcell y
      rw [txt_sl, e1] at HKA
      rw [e1] at hrun hset
      simp only [Nat.zero_add, e1] at HKB
      have hc3' : n ≤ cap3 := by omega
      have HB3 := Lib.hid (HB2.out.trans (hb3.mono HB2.out.size))
      have HSET := Lib.hid hset
      have HCJ := Lib.hid hcell
      have hk1 := HKA.out w3 (Below.refl _ _)
      have hw2 : w.heap.size ≤ w2.heap.size := HB2.out.size
      clear hr3 hf3 hb3 hset e1 hcell hc3
      generalize bAt (sl tx) j = oldb at HCJ
      go_wp2_with fail
      refine (HN1.out _).mono ?_
      rintro e w4 ⟨v4, rfl, ho4, hb4⟩
      have HB34 := Lib.hid hb4
      have hk2 := HKB.out w4 hb4
      generalize txt ((sl tx).drop 1) = t2 at hk2 HN2
      clear ho4 hb4 hk1
      have i9 : ¬ cap3 = 1 := by omega
      go_wp2_with fail
      refine (HN2.out _).mono ?_
      rintro e w5 ⟨v5, rfl, ho5, hb5⟩
      have hb35 := HB34.out.trans (hb5.mono HB34.out.size)
      have HB35 := Lib.hid hb35
      have hcj := cell_below hb35 HCJ.out
      have hfj : w5.frozen? ⟨w2.heap.size, j, none⟩ = false := by rw [hb35.frozen (p := ⟨w2.heap.size, j, none⟩) hs3]; exact HFJ.out
      have hk3 := conv_str (HSET.out w5 (fun i => hb35.cell (p := ⟨w2.heap.size, i, none⟩) hs3)) cap3
      have HB5 := Lib.hid ((HB3.out.trans (hb35.mono HB3.out.size)).setCell (p := ⟨w2.heap.size, j, none⟩) hw2 (.int .u8 (y.toNat : Nat)))
      generalize txt ((sl tx).set j y) = t3 at hk3 HN3
      clear ho5 hb5 hb35 hk2
      have j0 : (0 : Int) ≤ (j : Int) := by omega
      have j1 : (j : Int) < (n : Int) := by omega
      go_wp2_with fail
      refine (HN3.out _).mono ?_
      rintro e w7 ⟨v7, rfl, ho7, hb7⟩
      have HB7 := Lib.hid (HB5.out.trans (hb7.mono HB5.out.size))
      clear ho7 hb7
      go_wp2_with fail
      go_ret
      exact ⟨rfl, HB7.out⟩

end Go.Proofs.Ytolmeimipchndaa
