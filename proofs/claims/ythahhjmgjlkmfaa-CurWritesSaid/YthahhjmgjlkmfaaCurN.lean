/- CurWrites: the walk. -/
import Derived.Test.YthahhjmgjlkmfaaCurM
import Derived.Test.YthahhjmgjlkmfaaCurA
import Derived.Deep.RegionHeld3
namespace Go.Proofs.Ythahhjmgjlkmfaa
open Go.RowKit
set_option linter.unusedVariables false
set_option linter.unusedSimpArgs false

/-- What Bytes answers, as the statement holds it against the wanted row. -/
def TailPost (w : World) (g : Nat) (v : Value) (aw : Option Addr) (N cw : Nat) (bs : List UInt8) (tx : ByteArray) (e : Ending) (w' : World) : Prop :=
  ∃ a7 c7, e = .returned (.slice a7 N c7) ∧ (convert 22 9 (.slice a7 N c7)).run Try.prog w' = .ok (.string tx) w' ∧ (convert 22 9 (.slice aw N cw)).run Try.prog w' = .ok (.string tx) w' ∧ WX w g v (.slice aw N cw) bs bs w'

theorem bytes_tail {w W : World} {g : Nat} {v q : Value} {bs : List UInt8} (h : WX w g v q bs bs W) (hb : bs.length ≤ 1000000) :
    ∃ aw N cw tx, q = .slice aw N cw ∧ Hid (N = bs.length) ∧ ∀ j, Calls Try.prog 29 #[.pointer (some ⟨g, 0, none⟩)] (W.drewN j) (fun e w' => e = .returned (.int .i64 N) ∧ W.drewN j = w') ∧
      Calls Try.prog 30 #[.pointer (some ⟨g, 0, none⟩)] (W.drewN j) (TailPost w g v aw N cw bs tx) ∧ (convert 22 9 (.slice aw N cw)).run Try.prog (W.drewN j) = .ok (.string tx) (W.drewN j) := by
  obtain ⟨aw, cw, rfl, hr⟩ := h.own.reads
  refine ⟨aw, bs.length, cw, txt bs, rfl, rfl, fun j => ?_⟩
  have hj := h.chg (below_drewN W j _)
  refine ⟨wlen_calls g v bs _ _ hj.wtr, (wbytes_calls g v bs _ _ hj.wtr (by omega)).mono ?_, conv_str (hr.keep (below_drewN W j _)) cw⟩
  rintro e w7 ⟨v7, rfl, ho7, hb7⟩
  obtain ⟨a7, c7, rfl, hr7⟩ := ho7.reads
  have h7 := hj.chg hb7
  refine ⟨a7, c7, rfl, conv_str hr7 c7, ?_, h7⟩
  obtain ⟨aw', cw', he, hr'⟩ := h7.own.reads
  simp only [Value.slice.injEq, true_and] at he
  obtain ⟨rfl, rfl⟩ := he
  exact conv_str hr' cw

/-- What stands at the head of each round. -/
def WrRel (w : World) (g len : Nat) (q i : Value) (wr : World) : Prop :=
  ∃ (vw want : Value) (k : Nat) (bs : List UInt8), want = q ∧ k ≤ len ∧ i = .int .i64 k ∧ WX w g vw want bs bs wr ∧ bs.length ≤ 100 * k

theorem bAt_le (j v c : Nat) (h : c < j) : UInt8.ofNat (bAt (leBytes j v) c) = UInt8.ofNat (v / 256 ^ c) := by
  have := leBytes_at j v c h
  have h2 : (leBytes j v).getD c 0 = UInt8.ofNat (v / 256 ^ c) := by
    have h3 := congrArg (fun l => l.getD 0 0) this
    simp only [getD_drop, Nat.add_zero] at h3
    simpa using h3
  unfold bAt
  rw [h2]
  apply UInt8.toNat_inj.1
  simp

theorem putHigh_yes (v n : Nat) (hv : v < okSize) (h1 : 1 ≤ n) (h8 : n ≤ 8) (W : World) : Calls Try.prog 27 #[.int .u64 (v : Nat), .int .i64 n] W (BytesPost W (leBytes n v).reverse) := by
  have := putHigh_calls v n hv W
  have e : putHighS v n = (leBytes n v).reverse := by simp [putHighS, putLowS]; omega
  rwa [e] at this

set_option maxRecDepth 100000 in
set_option maxHeartbeats 100000000 in
theorem CurWrites_core (w : World) (a : Option Addr) (len cap : Nat) (f : Nat → PutS) (h : RdP w a len f) (hl : len ≤ 60) :
    Calls Try.prog 4 #[.slice a len cap] w fun e w' => e = .returned (.bool true) ∧ Below w.heap.size w w' := by
  have H := Lib.hid h
  clear h
  go_enter Try.func4, Try.ntmps4
  go_wp2_with fail
  refine (awake1 _).mono ?_
  rintro e w1 ⟨rfl, hb1⟩
  have H1 := Lib.hid hb1
  clear hb1
  go_wp2_with fail
  refine (lay_calls w1).mono ?_
  rintro e w2 ⟨g, rfl, hwt, hb2, hg⟩
  have hX2 : WX w g (.slice none 0 0) (.slice none 0 0) [] [] w2 := ⟨⟨hwt.1, hwt.2.1, World.ownsRow_nil _ _ _ _, hwt.2.2.2⟩, World.ownsRow_nil _ _ _ _, Sep.nil _, by simp [Value.ownBlock], H1.out.trans (hb2.mono H1.out.size), Nat.le_trans H1.out.size hg⟩
  have HX2 := Lib.hid hX2
  clear hwt hb2 hg hX2
  go_wp2_with fail
  go_loopw [4, 5] (fun q i wr => WrRel w g len q i wr) (fun _ i _ => len - (intOf i).toNat)
  case atStart => exact ⟨_, _, 0, [], rfl, by omega, rfl, HX2.out, by simp⟩
  case round =>
    obtain ⟨vw, want, k, bs, rfl, hk, rfl, hX, hbl⟩ := hrel
    have hsz := hX.below.size
    have hglt := hX.glt
    have hvl := owns_lt hX.wtr.2.2.1
    have hwl := owns_lt hX.own
    have hbelow := hX.below
    by_cases hlt : k < len
    · obtain ⟨k1, k2, k3, k4, b, o, x, m, z, rfl, hr, hn, c0, c1, c2, c3, c4⟩ := (H.out.keep hbelow).2 k hlt
      obtain ⟨_, _, _, _, _, _, x', m', z', ha', hr', hn', _, _, _, _, c4'⟩ := H.out.2 k hlt
      have hxe : x' = x ∧ m' = m := by
        simp only [Option.some.injEq, Addr.mk.injEq, and_true] at ha'
        obtain ⟨rfl, rfl⟩ := ha'
        have := (cell_below hbelow c4').symm.trans c4
        simp only [Option.some.injEq, Value.slice.injEq] at this
        exact ⟨this.1, this.2.1⟩
      obtain ⟨rfl, rfl⟩ := hxe
      have hml : m' = (f k).l.length := hr'.1.symm
      generalize f k = s at *
      obtain ⟨kd, n, p, v, l⟩ := s
      simp only at k1 k2 k3 k4 c0 c1 c2 c3 c4 hr' hml
      unfold inI64p at k1 k2 k3
      have HSB : Hid (∀ W, Below w.heap.size w W → SrcB W (.slice x' m' z) l) := fun W hW => ⟨x', m', z, rfl, hr'.keep hW, hn⟩
      have HML := Lib.hid hml
      have HV := Lib.hid k4
      have hX1 := hX.chg ((Below.refl wr.heap.size wr).alloc (Nat.le_refl _) (.cells #[.int .i64 kd, .int .i64 n, .int .i64 p, .int .u64 (v : Nat), .slice x' m' z] 43))
      have HX1 := Lib.hid hX1
      have HBX := Lib.hid (box_new wr ⟨kd, n, p, v, l⟩ x' m' z 43)
      have HNB : Hid (¬ (wr.heap.size = g ∨ vw.ownBlock = some wr.heap.size)) := by
        rintro (e | e)
        · omega
        · have := (hvl _ e).2; omega
      have hs1 : w.heap.size ≤ (wr.alloc (.cells #[.int .i64 kd, .int .i64 n, .int .i64 p, .int .u64 (v : Nat), .slice x' m' z] 43)).heap.size := by simp; omega
      have HWL := Lib.hid hwl
      have HBW := Lib.hid hbelow
      clear hX hvl hwl hr hr' hn hn' c4' ha' hml k4 hX1 hbelow
      by_cases hm : 100 < m'
      · go_wp2_with fail
        go_ret
        exact ⟨rfl, HBW.out.alloc hsz _⟩
      · by_cases h0 : kd = 0
        · subst h0
          as_aux_lemma =>
            obtain ⟨y, hy⟩ : ∃ y : Nat, y = (n % 256).toNat := ⟨_, rfl⟩
            have hyx : IntKind.u8.wrap n = (y : Int) := by rw [IntKind.wrap_u8']; omega
            have hy8 : y < 256 := by omega
            have C := Lib.hid (wbyte_calls g vw bs _ _ HX1.out.wtr hs1 (by omega) n)
            rw [← hy] at C
            clear hy
            go_wp2_with fail
            refine C.out.mono ?_
            rintro e w5 ⟨rfl, hst⟩
            obtain ⟨v5, hX5, hc5⟩ := HX1.out.step hst
            obtain ⟨e0, e1, e2, e3, e4⟩ := HBX.out.chg hc5 HNB.out
            simp only at e0 e1 e2 e3 e4
            have HX5 := Lib.hid hX5
            have HSB5 := Lib.hid (HSB.out _ hX5.below)
            have hs5 : w.heap.size ≤ w5.heap.size := hX5.below.size
            clear hst hX5 hc5
            go_wp2_with (at_builtin; refine wpList_appB (v := want) (bs := bs) (sv := .slice (some ⟨w5.heap.size, 0, none⟩) 1 1) (l := [UInt8.ofNat y]) (B := w.heap.size) (by rfl) _ _ (by rfl) (by rfl) (HX5.out.own.alloc _) (by rfl) (srcB_one w5 y hy8) ?o3 ?o4 ?_)
            case o3 => simp; omega
            case o4 => simp; omega
            intro q6 w6 ho6 ha6
            have hXF := (HX5.out.chg ((Below.refl _ _).alloc (Nat.le_refl _) _)).app ha6 ho6
            have hBL : (bs ++ [UInt8.ofNat y]).length ≤ 100 * (k + 1) := by rw [List.length_append, List.length_singleton]; omega
            generalize bs ++ [UInt8.ofNat y] = bs2 at hXF hBL
            have HXF := Lib.hid hXF
            have HBL := Lib.hid hBL
            clear hXF hBL ho6 ha6
            obtain ⟨aw, N2, cw, tx, hq, hN2, hT⟩ := bytes_tail HXF.out (by have := HBL.out; omega)
            subst hq
            have HTL := Lib.hid (fun j => (hT j).1)
            have HTB := Lib.hid (fun j => (hT j).2.1)
            have hTC := (hT 1).2.2
            have hTD := hTC
            change (convert 22 9 (.slice aw N2 cw)).run Try.prog (World.drew _) = .ok _ (World.drew _) at hTC
            clear hT hN2
            have hNN : ((N2 : Int) != N2) = false := by simp
            go_wp2_with fail
            go_region_with (first | (go_at_call 29; refine (HTL.out 1).mono ?_; rintro e w7 ⟨rfl, rfl⟩) | (go_at_call 30; refine (HTB.out 1).mono ?_; rintro e w7 ⟨a7, c7, rfl, hk1, hk2, hx7⟩; have HX7 := Lib.hid hx7; clear hx7))
            all_goals
              go_wp2_with fail
              go_roundw
              case rel => exact ⟨_, _, k + 1, _, rfl, by omega, by simp, HX7.out, HBL.out⟩
              case measure => simp [intOf]; omega
        · by_cases h1 : kd = 1
          · subst h1
            as_aux_lemma =>
              have C := Lib.hid (wraw_calls g vw bs l _ _ HX1.out.wtr hs1 (by omega) _ (HSB.out _ HX1.out.below) (by rw [← HML.out]; omega))
              go_wp2_with fail
              refine C.out.mono ?_
              rintro e w5 ⟨rfl, hst⟩
              obtain ⟨v5, hX5, hc5⟩ := HX1.out.step hst
              obtain ⟨e0, e1, e2, e3, e4⟩ := HBX.out.chg hc5 HNB.out
              simp only at e0 e1 e2 e3 e4
              have HX5 := Lib.hid hX5
              have HSB5 := Lib.hid (HSB.out _ hX5.below)
              have hs5 : w.heap.size ≤ w5.heap.size := hX5.below.size
              clear hst hX5 hc5
              go_wp2_with (at_builtin; refine wpList_appB (v := want) (bs := bs) (sv := .slice x' m' z) (l := l) (B := w.heap.size) (by rfl) _ _ (by rfl) (by rfl) HX5.out.own (by rfl) HSB5.out ?o3 ?o4 ?_)
              case o3 => rw [← HML.out]; omega
              case o4 => exact hs5
              intro q6 w6 ho6 ha6
              have hXF := HX5.out.app ha6 ho6
              have hBL : (bs ++ l).length ≤ 100 * (k + 1) := by rw [List.length_append, ← HML.out]; omega
              generalize bs ++ l = bs2 at hXF hBL
              have HXF := Lib.hid hXF
              have HBL := Lib.hid hBL
              clear hXF hBL ho6 ha6
              obtain ⟨aw, N2, cw, tx, hq, hN2, hT⟩ := bytes_tail HXF.out (by have := HBL.out; omega)
              subst hq
              have HTL := Lib.hid (fun j => (hT j).1)
              have HTB := Lib.hid (fun j => (hT j).2.1)
              have hTC := (hT 1).2.2
              have hTD := hTC
              change (convert 22 9 (.slice aw N2 cw)).run Try.prog (World.drew _) = .ok _ (World.drew _) at hTC
              clear hT hN2
              have hNN : ((N2 : Int) != N2) = false := by simp
              go_wp2_with fail
              go_region_with (first | (go_at_call 29; refine (HTL.out 1).mono ?_; rintro e w7 ⟨rfl, rfl⟩) | (go_at_call 30; refine (HTB.out 1).mono ?_; rintro e w7 ⟨a7, c7, rfl, hk1, hk2, hx7⟩; have HX7 := Lib.hid hx7; clear hx7))
              all_goals
                go_wp2_with fail
                go_roundw
                case rel => exact ⟨_, _, k + 1, _, rfl, by omega, by simp, HX7.out, HBL.out⟩
                case measure => simp [intOf]; omega
          · have n0 : (kd == 0) = false := by simp [h0]
            have n1 : (kd == 1) = false := by simp [h1]
            clear h0 h1
            by_cases h2 : kd = 2
            · subst h2
              by_cases hv : n < 1
              · as_aux_lemma =>
                  have C := Lib.hid (wlow_no g (wr.alloc (.cells #[.int .i64 2, .int .i64 n, .int .i64 p, .int .u64 (v : Nat), .slice x' m' z] 43)) v n (by omega))
                  have d1 : decide (1 ≤ n) = false := by simp; omega
                  obtain ⟨e0, e1, e2, e3, e4⟩ := HBX.out
                  simp only at e0 e1 e2 e3 e4
                  go_wp2_with (go_at_call 24; refine C.out.mono ?_; rintro e w5 ⟨rfl, rfl⟩)
                  have HXF := HX1
                  have HBL : Hid (bs.length ≤ 100 * (k + 1)) := by show bs.length ≤ _; omega
                  obtain ⟨aw, N2, cw, tx, hq, hN2, hT⟩ := bytes_tail HXF.out (by have := HBL.out; omega)
                  subst hq
                  have HTL := Lib.hid (fun j => (hT j).1)
                  have HTB := Lib.hid (fun j => (hT j).2.1)
                  have hTC := (hT 1).2.2
                  have hTD := hTC
                  change (convert 22 9 (.slice aw N2 cw)).run Try.prog (World.drew _) = .ok _ (World.drew _) at hTC
                  clear hT hN2
                  have hNN : ((N2 : Int) != N2) = false := by simp
                  go_wp2_with fail
                  go_region_with (first | (go_at_call 29; refine (HTL.out 1).mono ?_; rintro e w7 ⟨rfl, rfl⟩) | (go_at_call 30; refine (HTB.out 1).mono ?_; rintro e w7 ⟨a7, c7, rfl, hk1, hk2, hx7⟩; have HX7 := Lib.hid hx7; clear hx7))
                  all_goals
                    go_wp2_with fail
                    go_roundw
                    case rel => exact ⟨_, _, k + 1, _, rfl, by omega, by simp, HX7.out, HBL.out⟩
                    case measure => simp [intOf]; omega
              · by_cases hv2 : 8 < n
                · as_aux_lemma =>
                    have C := Lib.hid (wlow_no g (wr.alloc (.cells #[.int .i64 2, .int .i64 n, .int .i64 p, .int .u64 (v : Nat), .slice x' m' z] 43)) v n (by omega))
                    have d1 : decide (n ≤ 8) = false := by simp; omega
                    obtain ⟨e0, e1, e2, e3, e4⟩ := HBX.out
                    simp only at e0 e1 e2 e3 e4
                    go_wp2_with (go_at_call 24; refine C.out.mono ?_; rintro e w5 ⟨rfl, rfl⟩)
                    have HXF := HX1
                    have HBL : Hid (bs.length ≤ 100 * (k + 1)) := by show bs.length ≤ _; omega
                    obtain ⟨aw, N2, cw, tx, hq, hN2, hT⟩ := bytes_tail HXF.out (by have := HBL.out; omega)
                    subst hq
                    have HTL := Lib.hid (fun j => (hT j).1)
                    have HTB := Lib.hid (fun j => (hT j).2.1)
                    have hTC := (hT 1).2.2
                    have hTD := hTC
                    change (convert 22 9 (.slice aw N2 cw)).run Try.prog (World.drew _) = .ok _ (World.drew _) at hTC
                    clear hT hN2
                    have hNN : ((N2 : Int) != N2) = false := by simp
                    go_wp2_with fail
                    go_region_with (first | (go_at_call 29; refine (HTL.out 1).mono ?_; rintro e w7 ⟨rfl, rfl⟩) | (go_at_call 30; refine (HTB.out 1).mono ?_; rintro e w7 ⟨a7, c7, rfl, hk1, hk2, hx7⟩; have HX7 := Lib.hid hx7; clear hx7))
                    all_goals
                      go_wp2_with fail
                      go_roundw
                      case rel => exact ⟨_, _, k + 1, _, rfl, by omega, by simp, HX7.out, HBL.out⟩
                      case measure => simp [intOf]; omega
                · as_aux_lemma =>
                    obtain ⟨j, rfl⟩ : ∃ j : Nat, n = j := ⟨n.toNat, by omega⟩
                    have C := Lib.hid (wlow_yes g vw bs _ _ HX1.out.wtr hs1 (by omega) v j HV.out (by omega) (by omega))
                    go_wp2_with fail
                    refine C.out.mono ?_
                    rintro e w5 ⟨rfl, hst⟩
                    obtain ⟨v5, hX5, hc5⟩ := HX1.out.step hst
                    obtain ⟨e0, e1, e2, e3, e4⟩ := HBX.out.chg hc5 HNB.out
                    simp only at e0 e1 e2 e3 e4
                    have HX5 := Lib.hid hX5
                    have HSB5 := Lib.hid (HSB.out _ hX5.below)
                    have hs5 : w.heap.size ≤ w5.heap.size := hX5.below.size
                    clear hst hX5 hc5
                    have C := Lib.hid (fun W => putLow_yes v j HV.out (by omega) (by omega) W)
                    go_wp2_with fail
                    refine (C.out _).mono ?_
                    rintro e w5b ⟨v5b, rfl, ho5b, hb5b⟩
                    have HX5b := Lib.hid (HX5.out.chg hb5b)
                    have HS5b := Lib.hid (OwnB.srcB ho5b)
                    have hs5b : w.heap.size ≤ w5b.heap.size := HX5b.out.below.size
                    clear ho5b hb5b C
                    go_wp2_with (at_builtin; refine wpList_appB (v := want) (bs := bs) (sv := v5b) (l := (leBytes j v)) (B := w.heap.size) (by rfl) _ _ (by rfl) (by rfl) HX5b.out.own (by rfl) HS5b.out ?o3 ?o4 ?_)
                    case o3 => rw [leBytes_length]; omega
                    case o4 => exact hs5b
                    intro q6 w6 ho6 ha6
                    have hXF := HX5b.out.app ha6 ho6
                    have hBL : (bs ++ (leBytes j v)).length ≤ 100 * (k + 1) := by rw [List.length_append]; rw [leBytes_length]; omega
                    generalize bs ++ (leBytes j v) = bs2 at hXF hBL
                    have HXF := Lib.hid hXF
                    have HBL := Lib.hid hBL
                    clear hXF hBL ho6 ha6
                    obtain ⟨aw, N2, cw, tx, hq, hN2, hT⟩ := bytes_tail HXF.out (by have := HBL.out; omega)
                    subst hq
                    have HTL := Lib.hid (fun j => (hT j).1)
                    have HTB := Lib.hid (fun j => (hT j).2.1)
                    have hTC := (hT 1).2.2
                    have hTD := hTC
                    change (convert 22 9 (.slice aw N2 cw)).run Try.prog (World.drew _) = .ok _ (World.drew _) at hTC
                    clear hT hN2
                    have hNN : ((N2 : Int) != N2) = false := by simp
                    go_wp2_with fail
                    go_region_with (first | (go_at_call 29; refine (HTL.out 1).mono ?_; rintro e w7 ⟨rfl, rfl⟩) | (go_at_call 30; refine (HTB.out 1).mono ?_; rintro e w7 ⟨a7, c7, rfl, hk1, hk2, hx7⟩; have HX7 := Lib.hid hx7; clear hx7))
                    all_goals
                      go_wp2_with fail
                      go_roundw
                      case rel => exact ⟨_, _, k + 1, _, rfl, by omega, by simp, HX7.out, HBL.out⟩
                      case measure => simp [intOf]; omega
            · have n2 : (kd == 2) = false := by simp [h2]
              clear h2
              by_cases h3 : kd = 3
              · subst h3
                by_cases hv : n < 1
                · as_aux_lemma =>
                    have C := Lib.hid (whigh_no g (wr.alloc (.cells #[.int .i64 3, .int .i64 n, .int .i64 p, .int .u64 (v : Nat), .slice x' m' z] 43)) v n (by omega))
                    have d1 : decide (1 ≤ n) = false := by simp; omega
                    obtain ⟨e0, e1, e2, e3, e4⟩ := HBX.out
                    simp only at e0 e1 e2 e3 e4
                    go_wp2_with (go_at_call 26; refine C.out.mono ?_; rintro e w5 ⟨rfl, rfl⟩)
                    have HXF := HX1
                    have HBL : Hid (bs.length ≤ 100 * (k + 1)) := by show bs.length ≤ _; omega
                    obtain ⟨aw, N2, cw, tx, hq, hN2, hT⟩ := bytes_tail HXF.out (by have := HBL.out; omega)
                    subst hq
                    have HTL := Lib.hid (fun j => (hT j).1)
                    have HTB := Lib.hid (fun j => (hT j).2.1)
                    have hTC := (hT 1).2.2
                    have hTD := hTC
                    change (convert 22 9 (.slice aw N2 cw)).run Try.prog (World.drew _) = .ok _ (World.drew _) at hTC
                    clear hT hN2
                    have hNN : ((N2 : Int) != N2) = false := by simp
                    go_wp2_with fail
                    go_region_with (first | (go_at_call 29; refine (HTL.out 1).mono ?_; rintro e w7 ⟨rfl, rfl⟩) | (go_at_call 30; refine (HTB.out 1).mono ?_; rintro e w7 ⟨a7, c7, rfl, hk1, hk2, hx7⟩; have HX7 := Lib.hid hx7; clear hx7))
                    all_goals
                      go_wp2_with fail
                      go_roundw
                      case rel => exact ⟨_, _, k + 1, _, rfl, by omega, by simp, HX7.out, HBL.out⟩
                      case measure => simp [intOf]; omega
                · by_cases hv2 : 8 < n
                  · as_aux_lemma =>
                      have C := Lib.hid (whigh_no g (wr.alloc (.cells #[.int .i64 3, .int .i64 n, .int .i64 p, .int .u64 (v : Nat), .slice x' m' z] 43)) v n (by omega))
                      have d1 : decide (n ≤ 8) = false := by simp; omega
                      obtain ⟨e0, e1, e2, e3, e4⟩ := HBX.out
                      simp only at e0 e1 e2 e3 e4
                      go_wp2_with (go_at_call 26; refine C.out.mono ?_; rintro e w5 ⟨rfl, rfl⟩)
                      have HXF := HX1
                      have HBL : Hid (bs.length ≤ 100 * (k + 1)) := by show bs.length ≤ _; omega
                      obtain ⟨aw, N2, cw, tx, hq, hN2, hT⟩ := bytes_tail HXF.out (by have := HBL.out; omega)
                      subst hq
                      have HTL := Lib.hid (fun j => (hT j).1)
                      have HTB := Lib.hid (fun j => (hT j).2.1)
                      have hTC := (hT 1).2.2
                      have hTD := hTC
                      change (convert 22 9 (.slice aw N2 cw)).run Try.prog (World.drew _) = .ok _ (World.drew _) at hTC
                      clear hT hN2
                      have hNN : ((N2 : Int) != N2) = false := by simp
                      go_wp2_with fail
                      go_region_with (first | (go_at_call 29; refine (HTL.out 1).mono ?_; rintro e w7 ⟨rfl, rfl⟩) | (go_at_call 30; refine (HTB.out 1).mono ?_; rintro e w7 ⟨a7, c7, rfl, hk1, hk2, hx7⟩; have HX7 := Lib.hid hx7; clear hx7))
                      all_goals
                        go_wp2_with fail
                        go_roundw
                        case rel => exact ⟨_, _, k + 1, _, rfl, by omega, by simp, HX7.out, HBL.out⟩
                        case measure => simp [intOf]; omega
                  · as_aux_lemma =>
                      obtain ⟨j, rfl⟩ : ∃ j : Nat, n = j := ⟨n.toNat, by omega⟩
                      have C := Lib.hid (whigh_yes g vw bs _ _ HX1.out.wtr hs1 (by omega) v j HV.out (by omega) (by omega))
                      go_wp2_with fail
                      refine C.out.mono ?_
                      rintro e w5 ⟨rfl, hst⟩
                      obtain ⟨v5, hX5, hc5⟩ := HX1.out.step hst
                      obtain ⟨e0, e1, e2, e3, e4⟩ := HBX.out.chg hc5 HNB.out
                      simp only at e0 e1 e2 e3 e4
                      have HX5 := Lib.hid hX5
                      have HSB5 := Lib.hid (HSB.out _ hX5.below)
                      have hs5 : w.heap.size ≤ w5.heap.size := hX5.below.size
                      clear hst hX5 hc5
                      have C := Lib.hid (fun W => putHigh_yes v j HV.out (by omega) (by omega) W)
                      go_wp2_with fail
                      refine (C.out _).mono ?_
                      rintro e w5b ⟨v5b, rfl, ho5b, hb5b⟩
                      have HX5b := Lib.hid (HX5.out.chg hb5b)
                      have HS5b := Lib.hid (OwnB.srcB ho5b)
                      have hs5b : w.heap.size ≤ w5b.heap.size := HX5b.out.below.size
                      clear ho5b hb5b C
                      go_wp2_with (at_builtin; refine wpList_appB (v := want) (bs := bs) (sv := v5b) (l := (leBytes j v).reverse) (B := w.heap.size) (by rfl) _ _ (by rfl) (by rfl) HX5b.out.own (by rfl) HS5b.out ?o3 ?o4 ?_)
                      case o3 => rw [List.length_reverse, leBytes_length]; omega
                      case o4 => exact hs5b
                      intro q6 w6 ho6 ha6
                      have hXF := HX5b.out.app ha6 ho6
                      have hBL : (bs ++ (leBytes j v).reverse).length ≤ 100 * (k + 1) := by rw [List.length_append]; rw [List.length_reverse, leBytes_length]; omega
                      generalize bs ++ (leBytes j v).reverse = bs2 at hXF hBL
                      have HXF := Lib.hid hXF
                      have HBL := Lib.hid hBL
                      clear hXF hBL ho6 ha6
                      obtain ⟨aw, N2, cw, tx, hq, hN2, hT⟩ := bytes_tail HXF.out (by have := HBL.out; omega)
                      subst hq
                      have HTL := Lib.hid (fun j => (hT j).1)
                      have HTB := Lib.hid (fun j => (hT j).2.1)
                      have hTC := (hT 1).2.2
                      have hTD := hTC
                      change (convert 22 9 (.slice aw N2 cw)).run Try.prog (World.drew _) = .ok _ (World.drew _) at hTC
                      clear hT hN2
                      have hNN : ((N2 : Int) != N2) = false := by simp
                      go_wp2_with fail
                      go_region_with (first | (go_at_call 29; refine (HTL.out 1).mono ?_; rintro e w7 ⟨rfl, rfl⟩) | (go_at_call 30; refine (HTB.out 1).mono ?_; rintro e w7 ⟨a7, c7, rfl, hk1, hk2, hx7⟩; have HX7 := Lib.hid hx7; clear hx7))
                      all_goals
                        go_wp2_with fail
                        go_roundw
                        case rel => exact ⟨_, _, k + 1, _, rfl, by omega, by simp, HX7.out, HBL.out⟩
                        case measure => simp [intOf]; omega
              · have n3 : (kd == 3) = false := by simp [h3]
                clear h3
                obtain ⟨aq, cq, hqe, hqr⟩ := HX1.out.own.reads
                generalize hN : bs.length = N at hqe hqr
                subst hqe
                have HN := Lib.hid hN
                have hNb : N ≤ 6000 := by omega
                clear hN hqr
                obtain ⟨e0, e1, e2, e3, e4⟩ := HBX.out
                simp only at e0 e1 e2 e3 e4
                by_cases hv : 1 ≤ n ∧ n ≤ 8 ∧ 0 ≤ p ∧ p + n ≤ N
                · as_aux_lemma =>
                    obtain ⟨j, rfl⟩ : ∃ j : Nat, n = j := ⟨n.toNat, by omega⟩
                    obtain ⟨p, rfl⟩ : ∃ p' : Nat, p = p' := ⟨p.toNat, by omega⟩
                    have i1 : (p : Int) ≤ (N : Int) := by omega
                    have i2 : (j : Int) ≤ (N : Int) - (p : Int) := by omega
                    have q5 : IntKind.i64.wrap ((N : Int) - (p : Int)) = (N : Int) - (p : Int) := IntWalk.i64_in _ (by omega)
                    obtain ⟨gq, cq', hqe', hgq, hgq2⟩ := World.ownsRow.form HX1.out.own (by rw [HN.out]; omega)
                    simp only [Value.slice.injEq] at hqe'
                    obtain ⟨rfl, hx1, hx2⟩ := hqe'
                    clear hx1 hx2
                    have hgq3 : gq < wr.heap.size := (HWL.out gq rfl).2
                    have C := Lib.hid (wset_yes g vw bs _ _ HX1.out.wtr (by rw [HN.out]; omega) p v j HV.out (by omega) (by omega) (by rw [HN.out]; omega))
                    go_wp2_with fail
                    refine C.out.mono ?_
                    rintro e w5 ⟨rfl, hst⟩
                    have hX5 := HX1.out.set hst
                    have hs5 : wr.heap.size + 1 ≤ w5.heap.size := by have := hst.2.size; simpa using this
                    have HBX5 := Lib.hid (HBX.out.chg hst.2 (fun e => HNB.out (Or.inr e)))
                    obtain ⟨e0, e1, e2, e3, e4⟩ := HBX5.out
                    simp only at e0 e1 e2 e3 e4
                    have HX5 := Lib.hid hX5
                    clear hst hX5 C
                    have C := Lib.hid (fun W => putLow_yes v j HV.out (by omega) (by omega) W)
                    go_wp2_with fail
                    refine (C.out _).mono ?_
                    rintro e w6 ⟨v6, rfl, ho6, hb6⟩
                    obtain ⟨g6, c6, hve, hg6, hg6b⟩ := World.ownsRow.form ho6 (by rw [leBytes_length]; omega)
                    rw [leBytes_length] at hve
                    subst hve
                    have HX6 := Lib.hid (HX5.out.chg hb6)
                    have HBX6 := Lib.hid (HBX5.out.chg (S := fun _ => False) (Chg.of_below hb6) id)
                    have HO6 := Lib.hid ho6
                    have hgg : g6 ≠ gq := by omega
                    have hgg2 : gq ≠ g6 := by omega
                    have hgb : gq ≠ wr.heap.size := by omega
                    clear ho6 hb6 C e0 e1 e2 e3 e4
                    obtain ⟨wo, rfl⟩ : ∃ wo : World, wo = wr := ⟨_, rfl⟩
                    go_wp2_with fail
                    go_loopw [9] (fun i wx => ∃ c : Nat, c ≤ j ∧ i = .int .i64 c ∧ WX w g vw (.slice (some ⟨gq, 0, none⟩) N cq) (setAt bs p (leBytes j v)) (setAt bs p (leBytes c v)) wx ∧ OwnB wx w5.heap.size (.slice (some ⟨g6, 0, none⟩) j c6) (leBytes j v) ∧ BoxP wx wo.heap.size ⟨kd, j, p, v, l⟩ x' m' z) (fun i _ => j - (intOf i).toNat)
                    case atStart => exact ⟨0, by omega, rfl, by rw [leBytes, setAt_nil]; exact HX6.out, HO6.out, HBX6.out⟩
                    case round =>
                      obtain ⟨c, hc, rfl, hx, ho, hbox⟩ := hrel
                      have hcl : (setAt bs p (leBytes c v)).length = N := by rw [setAt_length _ _ _ (by rw [leBytes_length, HN.out]; omega), HN.out]
                      by_cases hlt2 : c < j
                      · obtain ⟨e0, e1, e2, e3, e4⟩ := hbox
                        simp only at e0 e1 e2 e3 e4
                        obtain ⟨a8, c8, hv8, hr8⟩ := OwnB.reads ho
                        simp only [Value.slice.injEq] at hv8
                        obtain ⟨rfl, hx1, rfl⟩ := hv8
                        clear hx1
                        obtain ⟨b9, o9, ha9, hc9⟩ := hr8.at c (by rw [leBytes_length]; exact hlt2)
                        simp only [Option.some.injEq, Addr.mk.injEq, and_true] at ha9
                        obtain ⟨rfl, rfl⟩ := ha9
                        rw [Nat.zero_add] at hc9
                        obtain ⟨a8, c8, hv8, hrq⟩ := OwnB.reads hx.own
                        simp only [Value.slice.injEq] at hv8
                        obtain ⟨rfl, hx1, rfl⟩ := hv8
                        clear hx1
                        obtain ⟨b9, o9, ha9, hcq⟩ := hrq.at (p + c) (by rw [hcl]; omega)
                        simp only [Option.some.injEq, Addr.mk.injEq, and_true] at ha9
                        obtain ⟨rfl, rfl⟩ := ha9
                        rw [Nat.zero_add] at hcq
                        have hff : wr.frozen? ⟨gq, p + c, none⟩ = false := World.ownsRow.frozenAt (by have := hx.own; unfold OwnB at this; rw [hcl] at this; exact this) (p + c)
                        have hset : (setAt bs p (leBytes c v)).set (p + c) (UInt8.ofNat (bAt (leBytes j v) c)) = setAt bs p (leBytes (c + 1) v) := by
                          have := setAt_snoc bs p (leBytes c v) (UInt8.ofNat (v / 256 ^ c)) (by rw [leBytes_length, HN.out]; omega)
                          rw [leBytes_length] at this
                          rw [leBytes_snoc, ← this, bAt_le j v c hlt2]
                        have hyb := bAt_lt (leBytes j v) c
                        have HYB := Lib.hid hyb
                        have hyi := bAt_bd (leBytes j v) c
                        generalize bAt (leBytes j v) c = y at hc9 hset hyb HYB hyi
                        have HS := Lib.hid hset
                        have HX := Lib.hid hx
                        have HO := Lib.hid ho
                        have HCL := Lib.hid hcl
                        have HBXr : Hid (BoxP wr wo.heap.size ⟨kd, j, p, v, l⟩ x' m' z) := ⟨e0, e1, e2, e3, e4⟩
                        have j0 : (0 : Int) ≤ (p : Int) + (c : Int) := by omega
                        have j1 : (p : Int) + (c : Int) < (N : Int) := by omega
                        have j2 : IntKind.i64.wrap ((p : Int) + (c : Int)) = (p : Int) + (c : Int) := IntWalk.i64_in _ (by omega)
                        have j3 : ((p : Int) + (c : Int)).toNat = p + c := by omega
                        have j4 : (0 : Int) ≤ (c : Int) := by omega
                        have j5 : (c : Int) < (j : Int) := by omega
                        clear hset hx ho hcl hr8 hrq e0 e1 e3 e4
                        go_wp2_with fail
                        go_region_held3 (fun w' => w'.cell? ⟨wo.heap.size, 2, none⟩ = some (.int .i64 (p : Nat)) ∧ w'.cell? ⟨g6, c, none⟩ = some (.int .u8 (y : Nat))) (go_keep) (fail)
                        go_wp2_with fail
                        have hput := HX.out.put (k := 1) (m := 0) HYB.out HCL.out HS.out
                        have hch : Chg (fun b => b = gq) wr (((wr.drewN 1).setCell ⟨gq, p + c, none⟩ (.int .u8 (y : Nat))).drewN 0) := Chg.trans (Chg.setCell (S := fun b => b = gq) (Chg.of_below (below_drewN wr 1 _)) (p := ⟨gq, p + c, none⟩) (fun _ => rfl) _) (Chg.of_below (S := fun _ => False) (below_drewN _ 0 _)) (fun _ _ h => h.elim)
                        go_roundw
                        case rel => exact ⟨c + 1, by omega, by simp, hput, HO.out.chg hch (fun b hb e => by simp only [Value.ownBlock, Option.some.injEq] at hb; omega), HBXr.out.chg hch (by omega)⟩
                        case measure => simp [intOf]; omega
                      · obtain rfl : c = j := by omega
                        have HXF := Lib.hid hx
                        have HBL : Hid ((setAt bs p (leBytes c v)).length ≤ 100 * (k + 1)) := by show _ ≤ _; rw [hcl, ← HN.out]; omega
                        clear hx ho hbox hcl
                        generalize setAt bs p (leBytes c v) = bs2 at HXF HBL
                        obtain ⟨aw, N2, cw, tx, hq, hN2, hT⟩ := bytes_tail HXF.out (by have := HBL.out; omega)
                        obtain ⟨rfl, rfl, rfl⟩ := Value.slice.inj hq
                        clear hq
                        have HTL := Lib.hid (fun j => (hT j).1)
                        have HTB := Lib.hid (fun j => (hT j).2.1)
                        have hTC := (hT 1).2.2
                        have hTD := hTC
                        change (convert 22 9 (.slice _ N _)).run Try.prog (World.drew _) = .ok _ (World.drew _) at hTC
                        clear hT hN2
                        have hNN : ((N : Int) != N) = false := by simp
                        go_wp2_with fail
                        go_region_with (first | (go_at_call 29; refine (HTL.out 1).mono ?_; rintro e w7 ⟨rfl, rfl⟩) | (go_at_call 30; refine (HTB.out 1).mono ?_; rintro e w7 ⟨a7, c7, rfl, hk1, hk2, hx7⟩; have HX7 := Lib.hid hx7; clear hx7))
                        all_goals
                          go_wp2_with fail
                          go_roundw
                          case rel => exact ⟨_, _, k + 1, _, rfl, by omega, by simp, HX7.out, HBL.out⟩
                          case measure => simp [intOf]; omega
                · by_cases f0 : n < 1
                  · as_aux_lemma =>
                      have C := Lib.hid (wset_no g vw bs (wr.alloc (.cells #[.int .i64 kd, .int .i64 n, .int .i64 p, .int .u64 (v : Nat), .slice x' m' z] 43)) _ HX1.out.wtr (by rw [HN.out]; omega) p v n (by rw [HN.out]; omega))
                      have d0 : decide (1 ≤ n) = false := by simp; omega
                      go_wp2_with fail
                      refine C.out.mono ?_
                      rintro e w5 ⟨rfl, rfl⟩
                      have C2 := Lib.hid (fun W => putLow_no v n (by omega) W)
                      go_wp2_with fail
                      refine (C2.out _).mono ?_
                      rintro e w6 ⟨rfl, rfl⟩
                      have hXF := HX1.out
                      have HXF := Lib.hid hXF
                      have HBL : Hid (bs.length ≤ 100 * (k + 1)) := by show bs.length ≤ _; omega
                      clear hXF
                      go_wp2_with fail
                      refine wp_loop_once ?_
                      obtain ⟨aw, N2, cw, tx, hq, hN2, hT⟩ := bytes_tail HXF.out (by have := HBL.out; omega)
                      obtain ⟨rfl, rfl, rfl⟩ := Value.slice.inj hq
                      clear hq
                      have HTL := Lib.hid (fun j => (hT j).1)
                      have HTB := Lib.hid (fun j => (hT j).2.1)
                      have hTC := (hT 1).2.2
                      have hTD := hTC
                      change (convert 22 9 (.slice _ N _)).run Try.prog (World.drew _) = .ok _ (World.drew _) at hTC
                      clear hT hN2
                      have hNN : ((N : Int) != N) = false := by simp
                      go_wp2_with fail
                      go_region_with (first | (go_at_call 29; refine (HTL.out 1).mono ?_; rintro e w7 ⟨rfl, rfl⟩) | (go_at_call 30; refine (HTB.out 1).mono ?_; rintro e w7 ⟨a7, c7, rfl, hk1, hk2, hx7⟩; have HX7 := Lib.hid hx7; clear hx7))
                      all_goals
                        go_wp2_with fail
                        go_roundw
                        case rel => exact ⟨_, _, k + 1, _, rfl, by omega, by simp, HX7.out, HBL.out⟩
                        case measure => simp [intOf]; omega
                  · by_cases f1 : 8 < n
                    · as_aux_lemma =>
                        have C := Lib.hid (wset_no g vw bs (wr.alloc (.cells #[.int .i64 kd, .int .i64 n, .int .i64 p, .int .u64 (v : Nat), .slice x' m' z] 43)) _ HX1.out.wtr (by rw [HN.out]; omega) p v n (by rw [HN.out]; omega))
                        have d0 : decide (n ≤ 8) = false := by simp; omega
                        go_wp2_with fail
                        refine C.out.mono ?_
                        rintro e w5 ⟨rfl, rfl⟩
                        have C2 := Lib.hid (fun W => putLow_no v n (by omega) W)
                        go_wp2_with fail
                        refine (C2.out _).mono ?_
                        rintro e w6 ⟨rfl, rfl⟩
                        have hXF := HX1.out
                        have HXF := Lib.hid hXF
                        have HBL : Hid (bs.length ≤ 100 * (k + 1)) := by show bs.length ≤ _; omega
                        clear hXF
                        go_wp2_with fail
                        refine wp_loop_once ?_
                        obtain ⟨aw, N2, cw, tx, hq, hN2, hT⟩ := bytes_tail HXF.out (by have := HBL.out; omega)
                        obtain ⟨rfl, rfl, rfl⟩ := Value.slice.inj hq
                        clear hq
                        have HTL := Lib.hid (fun j => (hT j).1)
                        have HTB := Lib.hid (fun j => (hT j).2.1)
                        have hTC := (hT 1).2.2
                        have hTD := hTC
                        change (convert 22 9 (.slice _ N _)).run Try.prog (World.drew _) = .ok _ (World.drew _) at hTC
                        clear hT hN2
                        have hNN : ((N : Int) != N) = false := by simp
                        go_wp2_with fail
                        go_region_with (first | (go_at_call 29; refine (HTL.out 1).mono ?_; rintro e w7 ⟨rfl, rfl⟩) | (go_at_call 30; refine (HTB.out 1).mono ?_; rintro e w7 ⟨a7, c7, rfl, hk1, hk2, hx7⟩; have HX7 := Lib.hid hx7; clear hx7))
                        all_goals
                          go_wp2_with fail
                          go_roundw
                          case rel => exact ⟨_, _, k + 1, _, rfl, by omega, by simp, HX7.out, HBL.out⟩
                          case measure => simp [intOf]; omega
                    · by_cases f2 : p < 0
                      · as_aux_lemma =>
                          have C := Lib.hid (wset_no g vw bs (wr.alloc (.cells #[.int .i64 kd, .int .i64 n, .int .i64 p, .int .u64 (v : Nat), .slice x' m' z] 43)) _ HX1.out.wtr (by rw [HN.out]; omega) p v n (by rw [HN.out]; omega))
                          have d0 : decide (0 ≤ p) = false := by simp; omega
                          go_wp2_with fail
                          refine C.out.mono ?_
                          rintro e w5 ⟨rfl, rfl⟩
                          obtain ⟨j, rfl⟩ : ∃ j : Nat, n = j := ⟨n.toNat, by omega⟩
                          have C2 := Lib.hid (fun W => putLow_yes v j HV.out (by omega) (by omega) W)
                          go_wp2_with fail
                          refine (C2.out _).mono ?_
                          rintro e w6 ⟨v6, rfl, ho6, hb6⟩
                          obtain ⟨a6, c6, rfl, _⟩ := OwnB.reads ho6
                          rw [leBytes_length]
                          have hXF := HX1.out.chg hb6
                          have HXF := Lib.hid hXF
                          have HBL : Hid (bs.length ≤ 100 * (k + 1)) := by show bs.length ≤ _; omega
                          clear hXF
                          go_wp2_with fail
                          refine wp_loop_once ?_
                          obtain ⟨aw, N2, cw, tx, hq, hN2, hT⟩ := bytes_tail HXF.out (by have := HBL.out; omega)
                          obtain ⟨rfl, rfl, rfl⟩ := Value.slice.inj hq
                          clear hq
                          have HTL := Lib.hid (fun j => (hT j).1)
                          have HTB := Lib.hid (fun j => (hT j).2.1)
                          have hTC := (hT 1).2.2
                          have hTD := hTC
                          change (convert 22 9 (.slice _ N _)).run Try.prog (World.drew _) = .ok _ (World.drew _) at hTC
                          clear hT hN2
                          have hNN : ((N : Int) != N) = false := by simp
                          go_wp2_with fail
                          go_region_with (first | (go_at_call 29; refine (HTL.out 1).mono ?_; rintro e w7 ⟨rfl, rfl⟩) | (go_at_call 30; refine (HTB.out 1).mono ?_; rintro e w7 ⟨a7, c7, rfl, hk1, hk2, hx7⟩; have HX7 := Lib.hid hx7; clear hx7))
                          all_goals
                            go_wp2_with fail
                            go_roundw
                            case rel => exact ⟨_, _, k + 1, _, rfl, by omega, by simp, HX7.out, HBL.out⟩
                            case measure => simp [intOf]; omega
                      · by_cases f3 : (N : Int) < p
                        · as_aux_lemma =>
                            have C := Lib.hid (wset_no g vw bs (wr.alloc (.cells #[.int .i64 kd, .int .i64 n, .int .i64 p, .int .u64 (v : Nat), .slice x' m' z] 43)) _ HX1.out.wtr (by rw [HN.out]; omega) p v n (by rw [HN.out]; omega))
                            have d0 : decide (p ≤ (N : Int)) = false := by simp; omega
                            go_wp2_with fail
                            refine C.out.mono ?_
                            rintro e w5 ⟨rfl, rfl⟩
                            obtain ⟨j, rfl⟩ : ∃ j : Nat, n = j := ⟨n.toNat, by omega⟩
                            have C2 := Lib.hid (fun W => putLow_yes v j HV.out (by omega) (by omega) W)
                            go_wp2_with fail
                            refine (C2.out _).mono ?_
                            rintro e w6 ⟨v6, rfl, ho6, hb6⟩
                            obtain ⟨a6, c6, rfl, _⟩ := OwnB.reads ho6
                            rw [leBytes_length]
                            have hXF := HX1.out.chg hb6
                            have HXF := Lib.hid hXF
                            have HBL : Hid (bs.length ≤ 100 * (k + 1)) := by show bs.length ≤ _; omega
                            clear hXF
                            go_wp2_with fail
                            refine wp_loop_once ?_
                            obtain ⟨aw, N2, cw, tx, hq, hN2, hT⟩ := bytes_tail HXF.out (by have := HBL.out; omega)
                            obtain ⟨rfl, rfl, rfl⟩ := Value.slice.inj hq
                            clear hq
                            have HTL := Lib.hid (fun j => (hT j).1)
                            have HTB := Lib.hid (fun j => (hT j).2.1)
                            have hTC := (hT 1).2.2
                            have hTD := hTC
                            change (convert 22 9 (.slice _ N _)).run Try.prog (World.drew _) = .ok _ (World.drew _) at hTC
                            clear hT hN2
                            have hNN : ((N : Int) != N) = false := by simp
                            go_wp2_with fail
                            go_region_with (first | (go_at_call 29; refine (HTL.out 1).mono ?_; rintro e w7 ⟨rfl, rfl⟩) | (go_at_call 30; refine (HTB.out 1).mono ?_; rintro e w7 ⟨a7, c7, rfl, hk1, hk2, hx7⟩; have HX7 := Lib.hid hx7; clear hx7))
                            all_goals
                              go_wp2_with fail
                              go_roundw
                              case rel => exact ⟨_, _, k + 1, _, rfl, by omega, by simp, HX7.out, HBL.out⟩
                              case measure => simp [intOf]; omega
                        · have d9 : True := trivial
                          have q5 : IntKind.i64.wrap ((N : Int) - p) = (N : Int) - p := IntWalk.i64_in _ (by omega)
                          have f4 : (N : Int) - p < n := by omega
                          by_cases f5 : True
                          · as_aux_lemma =>
                              have C := Lib.hid (wset_no g vw bs (wr.alloc (.cells #[.int .i64 kd, .int .i64 n, .int .i64 p, .int .u64 (v : Nat), .slice x' m' z] 43)) _ HX1.out.wtr (by rw [HN.out]; omega) p v n (by rw [HN.out]; omega))
                              have d0 : decide (n ≤ (N : Int) - p) = false := by simp; omega
                              go_wp2_with fail
                              refine C.out.mono ?_
                              rintro e w5 ⟨rfl, rfl⟩
                              obtain ⟨j, rfl⟩ : ∃ j : Nat, n = j := ⟨n.toNat, by omega⟩
                              have C2 := Lib.hid (fun W => putLow_yes v j HV.out (by omega) (by omega) W)
                              go_wp2_with fail
                              refine (C2.out _).mono ?_
                              rintro e w6 ⟨v6, rfl, ho6, hb6⟩
                              obtain ⟨a6, c6, rfl, _⟩ := OwnB.reads ho6
                              rw [leBytes_length]
                              have hXF := HX1.out.chg hb6
                              have HXF := Lib.hid hXF
                              have HBL : Hid (bs.length ≤ 100 * (k + 1)) := by show bs.length ≤ _; omega
                              clear hXF
                              go_wp2_with fail
                              refine wp_loop_once ?_
                              obtain ⟨aw, N2, cw, tx, hq, hN2, hT⟩ := bytes_tail HXF.out (by have := HBL.out; omega)
                              obtain ⟨rfl, rfl, rfl⟩ := Value.slice.inj hq
                              clear hq
                              have HTL := Lib.hid (fun j => (hT j).1)
                              have HTB := Lib.hid (fun j => (hT j).2.1)
                              have hTC := (hT 1).2.2
                              have hTD := hTC
                              change (convert 22 9 (.slice _ N _)).run Try.prog (World.drew _) = .ok _ (World.drew _) at hTC
                              clear hT hN2
                              have hNN : ((N : Int) != N) = false := by simp
                              go_wp2_with fail
                              go_region_with (first | (go_at_call 29; refine (HTL.out 1).mono ?_; rintro e w7 ⟨rfl, rfl⟩) | (go_at_call 30; refine (HTB.out 1).mono ?_; rintro e w7 ⟨a7, c7, rfl, hk1, hk2, hx7⟩; have HX7 := Lib.hid hx7; clear hx7))
                              all_goals
                                go_wp2_with fail
                                go_roundw
                                case rel => exact ⟨_, _, k + 1, _, rfl, by omega, by simp, HX7.out, HBL.out⟩
                                case measure => simp [intOf]; omega
                          · exact absurd trivial f5
    · go_wp2_with fail
      go_ret
      exact ⟨rfl, hbelow⟩
end Go.Proofs.Ythahhjmgjlkmfaa
