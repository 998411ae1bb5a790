/- The statements' own look. -/
import Derived.Test.YtolmeimipchndaaBaseC
import Derived.Test.YtolmeimipchndaaBaseT
import Derived.Lib.SlBytesConst
namespace Go.Proofs.Ytolmeimipchndaa
open Go.RowKit
set_option linter.unusedVariables false
set_option linter.unusedSimpArgs false

theorem rd_fo (W : World) (C : Nat × Nat) : RdB (W.alloc (.cells #[.int .u8 102, .int .u8 111] 5 C)) (some ⟨W.heap.size, 0, none⟩) 2 [102, 111] := by
  refine ⟨rfl, by omega, fun i hi => ⟨W.heap.size, 0, rfl, ?_⟩⟩
  rw [Nat.zero_add, cell_of_row _ W.heap.size i _ _ C (heap_alloc_new W _)]
  match i, hi with
  | 0, _ | 1, _ => simp [bAt]

set_option maxRecDepth 100000 in
set_option maxHeartbeats 1000000 in
theorem awake4 (w : World) : Calls Try.prog 23 #[] w fun e w' => e = .returned (.bool true) ∧ Below w.heap.size w w' := by
  have r0 : Res ⟨#[90, 109, 57, 61]⟩ = none := by decide +kernel
  have n := Lib.hid (bytes_no ⟨#[90, 109, 57, 61]⟩ (by decide) (fun t h => by rw [(res_law _ t).2 h] at r0; simp at r0))
  have y := Lib.hid (bytes_yes ⟨#[90, 109, 56, 61]⟩ (by decide) [102, 111] (by decide +kernel))
  have kc := fun (w : World) (C : Array Value) (n c : Nat) => Lib.run_convert_bytes_const (P := Try.prog) w 22 5 C n c Try.underlying22 Try.underlying5
  have T := Lib.hid (fun W => text_calls (some ⟨W.heap.size, 0, none⟩) 2 2 [102, 111] _ (rd_fo W (2, 3)) (by omega) (by omega))
  have e0 : txt (b64 [102, 111]) = ⟨#[90, 109, 56, 61]⟩ := by decide +kernel
  have e1 : txt [102, 111] = ⟨#[102, 111]⟩ := rfl
  rw [e0] at T
  have E1 := Lib.hid e1
  clear e0 e1 r0
  go_enter Try.func23, Try.ntmps23
  go_wp2_with fail
  refine (n.out w).mono ?_
  rintro e w1 ⟨v1, rfl, ho1, hb1⟩
  have HB1 := Lib.hid hb1
  clear ho1 hb1
  go_wp2_with fail
  refine (y.out w1).mono ?_
  rintro e w2 ⟨v2, rfl, ho2, hb2⟩
  have HB2 := Lib.hid (HB1.out.trans (hb2.mono HB1.out.size))
  obtain ⟨a2, c2, rfl, hr2⟩ := ho2.reads
  have HK := Lib.hid (fun W (hW : Below w2.heap.size w2 W) => conv_str (hr2.keep hW) c2)
  clear ho2 hb2 hr2
  rw [E1.out] at HK
  go_wp2_with fail
  refine (T.out _).mono ?_
  rintro e w3 ⟨rfl, hb3⟩
  have hb23 : Below w2.heap.size w2 w3 := ((Below.refl w2.heap.size w2).alloc (Nat.le_refl _) _).trans (hb3.mono (by simp))
  have hcv := HK.out _ hb23
  change (convert 22 9 (.slice a2 2 c2)).run Try.prog w3 = _ at hcv
  have HB3 := Lib.hid (HB2.out.trans (hb23.mono HB2.out.size))
  clear hb3 hb23
  go_wp2_with fail
  go_ret
  exact ⟨rfl, HB3.out⟩

/-- The texts of bytes, as strings. -/
theorem sl_txt (l : List UInt8) : sl (txt l) = l := rfl
theorem txt_sl (s : ByteArray) : txt (sl s) = s := rfl
theorem txt_size (l : List UInt8) : (txt l).size = l.length := by simp [txt, ByteArray.size]

set_option maxRecDepth 100000 in
set_option maxHeartbeats 1000000 in
theorem BaseBack_walk (w : World) (a : Option Addr) (len cap : Nat) (l : List UInt8) (h : RdB w a len l) (hnc : a = none → cap = 0) (hcc : len ≤ cap) :
    Calls Try.prog 5 #[.slice a len cap] w fun e w' => e = .returned (.bool true) ∧ Below w.heap.size w w' := by
  have H := Lib.hid h
  have HL := Lib.hid h.1
  have hm := h.2.1
  clear h
  by_cases hl : 600 < len
  · go_enter Try.func5, Try.ntmps5
    go_wp2_with (go_at_call 23; refine (awake4 _).mono ?_; rintro e w1 ⟨rfl, hb⟩)
    go_ret
    exact ⟨rfl, hb⟩
  · have HY := Lib.hid (bytes_yes (txt (b64 l)) (by rw [txt_size, b64_len, HL.out]; omega) l rfl)
    have hsz : (txt (b64 l)).size = (len + 2) / 3 * 4 := by rw [txt_size, b64_len, HL.out]
    have HT := Lib.hid (fun W hW => text_calls a len cap l W hW hcc (by omega))
    generalize txt (b64 l) = tx at HY hsz HT
    have HSZ := Lib.hid hsz
    have d1 : ((tx.size : Int) == ((len : Int) + 2) / 3 * 4) = true := by rw [hsz]; simp
    clear hsz
    go_enter Try.func5, Try.ntmps5
    go_wp2_with fail
    refine (awake4 _).mono ?_
    rintro e w1 ⟨rfl, hb1⟩
    have HB1 := Lib.hid hb1
    clear hb1
    go_wp2_with fail
    refine (HT.out _ (H.out.keep HB1.out)).mono ?_
    rintro e w2 ⟨rfl, hb2⟩
    have HB2 := Lib.hid (HB1.out.trans (hb2.mono HB1.out.size))
    clear hb2
    go_wp2_with fail
    refine (HY.out w2).mono ?_
    rintro e w3 ⟨v3, rfl, ho3, hb3⟩
    have HB3 := Lib.hid (HB2.out.trans (hb3.mono HB2.out.size))
    obtain ⟨a3, c3, rfl, hr3⟩ := ho3.reads
    have hc1 := conv_str hr3 c3
    have hc2 := conv_str (H.out.keep HB3.out) cap
    rw [HL.out] at hc1 ⊢
    generalize txt l = t2 at hc1 hc2
    clear ho3 hb3 hr3
    go_wp2_with fail
    go_ret
    exact ⟨rfl, HB3.out⟩

end Go.Proofs.Ytolmeimipchndaa
