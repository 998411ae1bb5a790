/- bout: ended, text. bout.document over bout.value; the bytes of a tree. -/
import Derived.Test.YtkcfkdmffbhljaaMN
import Derived.Test.YtkcfkdmffbhljaaMU
import Derived.Test.YtkcfkdmffbhljaaMT
import Derived.Test.YtkcfkdmffbhljaaMB
namespace Go.Proofs.Ytkcfkdmffbhljaa
open Go.RowKit
set_option linter.unusedVariables false
set_option linter.unusedSimpArgs false

theorem WStep.below {w w3 w' : World} {B g : Nat} {v : Value} {bs : List UInt8} (hb : Below w.heap.size w w3) (h : WStep w3 B g v bs w') : WStep w B g v bs w' :=
  WStep.trans (Chg.of_below hb) (fun k hk => .inl hk) h
theorem Wtr.below {w w3 : World} {B g : Nat} {v : Value} {bs : List UInt8} (h : Wtr w B g v bs) (hb : Below w.heap.size w w3) : Wtr w3 B g v bs :=
  h.chg (S := fun _ => False) (Chg.of_below hb) (fun h => h) (fun _ _ h => h)
theorem byte0 : UInt8.ofNat ((0 : Int) % 256).toNat = 0 := rfl

set_option maxRecDepth 100000 in
set_option maxHeartbeats 4000000 in
theorem ended_calls (g : Nat) (v : Value) (bs : List UInt8) (w : World) (B : Nat) (h : Wtr w B g v bs) (hB : B ≤ w.heap.size) (hn : bs.length ≤ 100000000) (s : ByteArray) (hs : s.size ≤ 1000000) :
    Calls Try.prog 62 #[.pointer (some ⟨g, 0, none⟩), .string s] w fun e w' => e = .returned (.tuple #[]) ∧ WStep w B g v (bs ++ sl s ++ [0]) w' := by
  obtain ⟨cap3, w3, hrun, hb3, hs3, hr3, hz1, hz2⟩ := conv_bytes w s (by omega)
  have hsl := sl_len s
  have C1 := Lib.hid (wraw_calls g v bs (sl s) w3 B (h.below hb3) (Nat.le_trans hB hb3.size) (by omega) (.slice (some ⟨w.heap.size, 0, none⟩) s.size cap3) ⟨_, _, _, rfl, hr3, by simp⟩ (by omega))
  have C2 := Lib.hid (fun W v4 (h4 : Wtr W B g v4 (bs ++ sl s)) hB4 => wbyte_calls g v4 (bs ++ sl s) W B h4 hB4 (by simp; omega) 0)
  rw [byte0] at C2
  have HB3 := Lib.hid hb3
  clear hr3 hz1 hz2 hb3 hsl
  go_enter Try.func62, Try.ntmps62
  go_wp2_with fail
  refine C1.out.mono ?_
  rintro e w4 ⟨rfl, v4, h4, hc4, hv4⟩
  have H4 := Lib.hid h4
  have HC4 := Lib.hid hc4
  have HV4 := Lib.hid hv4
  have hs4 := hc4.size
  clear h4 hc4 hv4
  go_wp2_with fail
  refine (C2.out w4 v4 H4.out (by have := HB3.out.size; omega)).mono ?_
  rintro e w5 ⟨rfl, hst⟩
  have HST := Lib.hid hst
  clear hst
  go_wp2_with fail
  go_end0
  exact ⟨rfl, (WStep.trans HC4.out HV4.out HST.out).below HB3.out⟩

/-- A text with its length. -/
def textB (s : ByteArray) : List UInt8 := leBytes 4 (s.size + 1) ++ sl s ++ [0]

set_option maxRecDepth 100000 in
set_option maxHeartbeats 4000000 in
theorem btext_calls (g : Nat) (v : Value) (bs : List UInt8) (w : World) (B : Nat) (h : Wtr w B g v bs) (hB : B ≤ w.heap.size) (hn : bs.length ≤ 90000000) (s : ByteArray) (hs : s.size ≤ 1000000) :
    Calls Try.prog 88 #[.pointer (some ⟨g, 0, none⟩), .string s] w fun e w' => e = .returned (.tuple #[]) ∧ WStep w B g v (bs ++ textB s) w' := by
  have C1 := Lib.hid (wlow_yes g v bs w B h hB (by omega) (s.size + 1) 4 (by unfold okSize; omega) (by omega) (by omega))
  have C2 := Lib.hid (fun W v4 (h4 : Wtr W B g v4 (bs ++ leBytes 4 (s.size + 1))) hB4 => ended_calls g v4 (bs ++ leBytes 4 (s.size + 1)) W B h4 hB4 (by simp [leBytes_length]; omega) s hs)
  have e1 : IntKind.i64.wrap ((s.size : Int) + 1) = (s.size : Int) + 1 := IntWalk.i64_in _ (by omega)
  have e2 : IntKind.u64.wrap ((s.size : Int) + 1) = (s.size : Int) + 1 := wrap_u64_of (by omega) (by omega)
  have hB' := hB
  clear h
  go_enter Try.func88, Try.ntmps88
  go_wp2_with fail
  refine C1.out.mono ?_
  rintro e w4 ⟨rfl, v4, h4, hc4, hv4⟩
  have H4 := Lib.hid h4
  have HC4 := Lib.hid hc4
  have HV4 := Lib.hid hv4
  have hs4 := hc4.size
  clear h4 hc4 hv4
  go_wp2_with fail
  refine (C2.out w4 v4 H4.out (by omega)).mono ?_
  rintro e w5 ⟨rfl, hst⟩
  have HST := Lib.hid hst
  clear hst
  go_wp2_with fail
  go_end0
  refine ⟨rfl, ?_⟩
  have := WStep.trans HC4.out HV4.out HST.out
  unfold textB
  rwa [← List.append_assoc, ← List.append_assoc]

end Go.Proofs.Ytkcfkdmffbhljaa

namespace Go.Proofs.Ytkcfkdmffbhljaa
open Go.RowKit
set_option linter.unusedVariables false
set_option linter.unusedSimpArgs false

def docOf (l : List UInt8) : List UInt8 := leBytes 4 (l.length + 5) ++ l ++ [0]
def scopeOf (l : List UInt8) : List UInt8 := leBytes 4 (l.length + 4) ++ l
def kindB (k : Int) : UInt8 := UInt8.ofNat (k % 256).toNat
def binB (sub : Int) (bs : List UInt8) : List UInt8 := (if sub == 2 then leBytes 4 (bs.length + 4) ++ [kindB sub] ++ leBytes 4 bs.length else leBytes 4 bs.length ++ [kindB sub]) ++ bs
mutual
/-- The bytes of a value. -/
def valB : T → List UInt8
  | .mk k bits hi lo text more sub bs f =>
    if k == 1 || k == 9 || k == 17 || k == 18 then leBytes 8 bits else
    if k == 16 then leBytes 4 bits else
    if k == 8 then leBytes 1 bits else
    if k == 19 then leBytes 8 lo ++ leBytes 8 hi else
    if k == 2 || k == 13 || k == 14 then textB text else
    if k == 11 then (sl text ++ [0]) ++ (sl more ++ [0]) else
    if k == 5 then binB sub bs else
    if k == 7 then bs else
    if k == 12 then textB text ++ bs else
    if k == 3 || k == 4 then docOf (kidsB f) else
    if k == 15 then scopeOf (textB text ++ docOf (kidsB f)) else []
/-- The bytes of the elements. -/
def kidsB : F → List UInt8
  | .nil => []
  | .cons n t r => ([kindB t.kind] ++ (sl n ++ [0]) ++ valB t) ++ kidsB r
end

theorem leB_len (n x : Nat) : (leBytes n x).length = n := leBytes_length ..
theorem textB_len (s : ByteArray) : (textB s).length = s.size + 5 := by simp [textB, leB_len, sl_len]; omega
theorem docOf_len (l : List UInt8) : (docOf l).length = l.length + 5 := by simp [docOf, leB_len]; omega
theorem scopeOf_len (l : List UInt8) : (scopeOf l).length = l.length + 4 := by simp [scopeOf, leB_len]; omega
theorem binB_len (sub : Int) (bs : List UInt8) : (binB sub bs).length ≤ bs.length + 9 := by
  unfold binB
  split <;> simp [leB_len] <;> omega
mutual
theorem valB_len : ∀ t : T, (valB t).length + 2 ≤ 10 * t.wt
  | .mk k bits hi lo text more sub bs f => by
    have h1 := kidsB_len f
    have h2 := binB_len sub bs
    have h3 := sl_len text
    have h4 := sl_len more
    simp only [valB, T.wt]
    (repeat' split) <;> simp [leB_len, textB_len, docOf_len, scopeOf_len, sl_len] <;> omega
theorem kidsB_len : ∀ f : F, (kidsB f).length ≤ 10 * f.wt
  | .nil => by simp [kidsB]
  | .cons n t r => by
    have h1 := valB_len t
    have h2 := kidsB_len r
    simp only [kidsB, F.wt, List.length_append, sl_len, List.length_cons, List.length_nil]
    omega
end
theorem kidsB_step (a : F) (j : Nat) (n : ByteArray) (t : T) (h : a.get? j = some (n, t)) : kidsB (a.drop j) = ([kindB t.kind] ++ (sl n ++ [0]) ++ valB t) ++ kidsB (a.drop (j + 1)) := by
  rw [F.drop_get a j n t h]; rfl
theorem kidsB_end (a : F) (j : Nat) (h : a.len ≤ j) : kidsB (a.drop j) = [] := by
  rw [F.drop_len a j h]; rfl

def ValSaid (d : Nat) : Prop := ∀ t : T, t.wt ≤ d → ∀ (w0 w : World) (B g : Nat) (v : Value) (bs : List UInt8) (c : Array Value), RdT w0 t c → Below w0.heap.size w0 w → w0.heap.size ≤ B → w0.heap.size ≤ g → Wtr w B g v bs → B ≤ w.heap.size → bs.length + 80 * t.wt ≤ 80000000 →
  Calls Try.prog 63 #[.pointer (some ⟨g, 0, none⟩), .agg c] w fun e w' => e = .returned (.tuple #[]) ∧ WStep w B g v (bs ++ valB t) w'
def DocSaid (d : Nat) : Prop := ∀ f : F, f.wt ≤ d → ∀ (w0 w : World) (B g : Nat) (v : Value) (bs : List UInt8) (a : Option Addr) (n c : Nat), RdKs w0 a 0 f → f.len = n → n ≤ 9223372036854775807 → Below w0.heap.size w0 w → w0.heap.size ≤ B → w0.heap.size ≤ g → Wtr w B g v bs → B ≤ w.heap.size → bs.length + 100 + 80 * f.wt ≤ 80000000 →
  Calls Try.prog 43 #[.pointer (some ⟨g, 0, none⟩), .slice a n c] w fun e w' => e = .returned (.tuple #[]) ∧ WStep w B g v (bs ++ docOf (kidsB f)) w'

/-- A Writer on its way: where it stands, what has turned since. -/
def WGo (w : World) (B g : Nat) (v : Value) (bs : List UInt8) (vr : Value) (wr : World) : Prop :=
  Wtr wr B g vr bs ∧ Chg (fun k => k = g ∨ v.ownBlock = some k) w wr ∧ (∀ k, vr.ownBlock = some k → v.ownBlock = some k ∨ w.heap.size ≤ k)
theorem WGo.refl {w : World} {B g : Nat} {v : Value} {bs : List UInt8} (h : Wtr w B g v bs) : WGo w B g v bs v w := ⟨h, Chg.refl _ _, fun k hk => .inl hk⟩
theorem WGo.step {w wr w' : World} {B g : Nat} {v vr : Value} {bs bs' : List UInt8} (h : WGo w B g v bs vr wr) (hs : WStep wr B g vr bs' w') : ∃ v', WGo w B g v bs' v' w' := WStep.trans h.2.1 h.2.2 hs
theorem WGo.below {w wr w' : World} {B g : Nat} {v vr : Value} {bs : List UInt8} (h : WGo w B g v bs vr wr) (hb : Below wr.heap.size wr w') : WGo w B g v bs vr w' :=
  ⟨h.1.below hb, h.2.1.trans (Chg.of_below (S := fun _ => False) hb) (fun _ _ h => h.elim), h.2.2⟩
theorem WGo.wstep {w wr : World} {B g : Nat} {v vr : Value} {bs : List UInt8} (h : WGo w B g v bs vr wr) : WStep w B g v bs wr := ⟨vr, h⟩
theorem WGo.under {w0 w wr : World} {B g : Nat} {v vr : Value} {bs bs0 : List UInt8} (h : WGo w B g v bs vr wr) (h0 : Wtr w B g v bs0) (hb : Below w0.heap.size w0 w) (hB : w0.heap.size ≤ B) (hg : w0.heap.size ≤ g) : Below w0.heap.size w0 wr :=
  hb.trans (h.2.1.below hb.size (fun i hi => by
    rcases hi with rfl | hi
    · exact hg
    · have := (owns_lt h0.2.2.1 i hi).1; omega))

theorem set_head (bs l : List UInt8) (x : Nat) (h : x = l.length + 5) : setAt (bs ++ leBytes 4 0 ++ l ++ [0]) bs.length (leBytes 4 x) = bs ++ docOf l := by
  subst h
  unfold setAt docOf
  have e1 : (bs ++ leBytes 4 0 ++ l ++ [0]).take bs.length = bs := by
    rw [List.append_assoc, List.append_assoc, List.take_left']
    rfl
  have e2 : (bs ++ leBytes 4 0 ++ l ++ [0]).drop (bs.length + (leBytes 4 (l.length + 5)).length) = l ++ [0] := by
    rw [leB_len, List.append_assoc, ← leB_len 4 0, ← List.length_append]
    exact List.drop_left' rfl
  rw [e1, e2]
  simp

def DocRel (w : World) (B g : Nat) (v : Value) (tot : List UInt8) (kids : F) (M : Nat) (i : Value) (wr : World) : Prop :=
  ∃ (j : Nat) (vr : Value) (cur : List UInt8), i = .int .i64 j ∧ j ≤ kids.len ∧ Hid (tot = cur ++ kidsB (kids.drop j)) ∧ WGo w B g v cur vr wr ∧ cur.length + 80 * (kids.drop j).wt ≤ M

set_option maxRecDepth 100000 in
set_option maxHeartbeats 16000000 in
theorem doc_step (d : Nat) (hof : ValSaid d) : DocSaid d := by
  intro kids hd w0 w B g v bs a nk c hks hkl hnk hw0 hwB hwg hwt hBw hbl
  have HOF := Lib.hid hof
  have HKS := Lib.hid hks
  have HKL := Lib.hid hkl
  have HW0 := Lib.hid hw0
  have HWT := Lib.hid hwt
  have hkb := kidsB_len kids
  have CL := Lib.hid (fun W vr l (h : Wtr W B g vr l) => wlen_calls g vr l W B h)
  have C0 := Lib.hid (wlow_yes g v bs w B hwt hBw (by omega) 0 4 (by unfold okSize; omega) (by omega) (by omega))
  have CB := Lib.hid (fun W vr l x (h : Wtr W B g vr l) hB hl => wbyte_calls g vr l W B h hB hl x)
  have CE := Lib.hid (fun W vr l s hs (h : Wtr W B g vr l) hB hl => ended_calls g vr l W B h hB hl s hs)
  have CS := Lib.hid (fun W vr l p x hx hp (h : Wtr W B g vr l) hl => wset_yes g vr l W B h hl p x 4 hx (by omega) (by omega) hp)
  have hsw0 := hw0.size
  clear hof hks hkl hw0 hwt
  go_enter Try.func43, Try.ntmps43
  go_wp2_with fail
  refine (CL.out w v bs HWT.out).mono ?_
  rintro e w1 ⟨rfl, rfl⟩
  go_wp2_with fail
  refine C0.out.mono ?_
  rintro e w2 ⟨rfl, hst⟩
  obtain ⟨v2, hgo2⟩ := (WGo.refl HWT.out).step hst
  have HGO2 := Lib.hid hgo2
  clear hst hgo2
  go_wp2_with fail
  go_loopw [13] (fun i wr => DocRel w B g v (bs ++ leBytes 4 0 ++ kidsB kids) kids (bs.length + 4 + 80 * kids.wt) i wr) (fun i _ => nk - (intOf i).toNat)
  case atStart => exact ⟨0, v2, bs ++ leBytes 4 0, rfl, Nat.zero_le _, by show _ = _; simp [F.drop], HGO2.out, by simp [F.drop, leB_len]⟩
  case round =>
    obtain ⟨j, vr, cur, rfl, hj, htot, hgo, hM⟩ := hrel
    rw [HKL.out] at hj
    have HGO := Lib.hid hgo
    have hz := hgo.2.1.size
    clear hgo HGO2
    by_cases hlt : j < nk
    · obtain ⟨⟨n, tt⟩, hx⟩ := F.get_some kids j (by rw [HKL.out]; exact hlt)
      have hwg2 := F.wt_get kids j n tt hx
      have hst := kidsB_step kids j n tt hx
      obtain ⟨b, o, k', bits', hi', lo', text', more', sub', bs', kids', ab', nb', cb', ak', nk', ck', rfl, rfl, e1, e2, e3, g0, g1, g2, g3, g4, g5, g6, g7, g8, g9⟩ := (HKS.out.at hx).cells
      have hB0r : Below w0.heap.size w0 wr := HGO.out.under HWT.out HW0.out hwB hwg
      have HB0r := Lib.hid hB0r
      have E3 := Lib.hid e3
      have hj0 : (0 : Int) ≤ (j : Int) := by omega
      have hj1 : (j : Int) < (nk : Int) := by omega
      have y0 : wr.cell? ⟨b, o + j * 10, none⟩ = some (.string n) := cell_below hB0r g0
      have y1 : wr.cell? ⟨b, o + j * 10 + 1, none⟩ = some (.int .i64 k') := cell_below hB0r g1
      have y2 : wr.cell? ⟨b, o + j * 10 + 2, none⟩ = some (.int .u64 (bits' : Nat)) := cell_below hB0r g2
      have y3 : wr.cell? ⟨b, o + j * 10 + 3, none⟩ = some (.int .u64 (hi' : Nat)) := cell_below hB0r g3
      have y4 : wr.cell? ⟨b, o + j * 10 + 4, none⟩ = some (.int .u64 (lo' : Nat)) := cell_below hB0r g4
      have y5 : wr.cell? ⟨b, o + j * 10 + 5, none⟩ = some (.string text') := cell_below hB0r g5
      have y6 : wr.cell? ⟨b, o + j * 10 + 6, none⟩ = some (.string more') := cell_below hB0r g6
      have y7 : wr.cell? ⟨b, o + j * 10 + 7, none⟩ = some (.int .i64 sub') := cell_below hB0r g7
      have y8 : wr.cell? ⟨b, o + j * 10 + 8, none⟩ = some (.slice ab' nb' cb') := cell_below hB0r g8
      have y9 : wr.cell? ⟨b, o + j * 10 + 9, none⟩ = some (.slice ak' nk' ck') := cell_below hB0r g9
      have hkd : T.kind (T.mk k' bits' hi' lo' text' more' sub' bs' kids') = k' := rfl
      rw [hkd] at hst
      have hvl := valB_len (T.mk k' bits' hi' lo' text' more' sub' bs' kids')
      have hw1 : (T.mk k' bits' hi' lo' text' more' sub' bs' kids').wt ≤ d := by omega
      have hnn : n.size ≤ 1000000 := by omega
      obtain ⟨VB, hVB⟩ : ∃ l, l = valB (T.mk k' bits' hi' lo' text' more' sub' bs' kids') := ⟨_, rfl⟩
      have CV := Lib.hid (fun W vr l h1 h2 h3 h4 => HOF.out (T.mk k' bits' hi' lo' text' more' sub' bs' kids') hw1 w0 W B g vr l _ E3.out h1 hwB hwg h2 h3 h4)
      rw [← hVB] at hst hvl CV
      have HTN : Hid (bs ++ leBytes 4 0 ++ kidsB kids = (cur ++ [kindB k'] ++ (sl n ++ [0]) ++ VB) ++ kidsB (kids.drop (j + 1))) := by
        show _ = _
        rw [htot.out, hst]
        simp
      have HSL := Lib.hid (sl_len n)
      clear hx hst e3 e1 e2 g0 g1 g2 g3 g4 g5 g6 g7 g8 g9 hB0r hVB
      go_wp2_with fail
      obtain ⟨wf, hwf⟩ : ∃ W, W = wr.alloc (.cells #[.string n, .int .i64 k', .int .u64 (bits' : Nat), .int .u64 (hi' : Nat), .int .u64 (lo' : Nat), .string text', .string more', .int .i64 sub', .slice ab' nb' cb', .slice ak' nk' ck'] 57) := ⟨_, rfl⟩
      have hwfb : Below wr.heap.size wr wf := by rw [hwf]; exact (Below.refl _ _).alloc (Nat.le_refl _) _
      have hgf : wr.heap.size < wf.heap.size := by rw [hwf]; simp
      have x0 : wf.cell? ⟨wr.heap.size, 0, none⟩ = some (.string n) := by rw [hwf]; simp [go_sem]
      have x1 : wf.cell? ⟨wr.heap.size, 1, none⟩ = some (.int .i64 k') := by rw [hwf]; simp [go_sem]
      have x2 : wf.cell? ⟨wr.heap.size, 2, none⟩ = some (.int .u64 (bits' : Nat)) := by rw [hwf]; simp [go_sem]
      have x3 : wf.cell? ⟨wr.heap.size, 3, none⟩ = some (.int .u64 (hi' : Nat)) := by rw [hwf]; simp [go_sem]
      have x4 : wf.cell? ⟨wr.heap.size, 4, none⟩ = some (.int .u64 (lo' : Nat)) := by rw [hwf]; simp [go_sem]
      have x5 : wf.cell? ⟨wr.heap.size, 5, none⟩ = some (.string text') := by rw [hwf]; simp [go_sem]
      have x6 : wf.cell? ⟨wr.heap.size, 6, none⟩ = some (.string more') := by rw [hwf]; simp [go_sem]
      have x7 : wf.cell? ⟨wr.heap.size, 7, none⟩ = some (.int .i64 sub') := by rw [hwf]; simp [go_sem]
      have x8 : wf.cell? ⟨wr.heap.size, 8, none⟩ = some (.slice ab' nb' cb') := by rw [hwf]; simp [go_sem]
      have x9 : wf.cell? ⟨wr.heap.size, 9, none⟩ = some (.slice ak' nk' ck') := by rw [hwf]; simp [go_sem]
      rw [← hwf]
      clear hwf y0 y1 y2 y3 y4 y5 y6 y7 y8 y9
      have HGOf := Lib.hid (HGO.out.below hwfb)
      obtain ⟨g8, hg8⟩ : ∃ q, q = wr.heap.size := ⟨_, rfl⟩
      rw [← hg8] at hgf x0 x1 x2 x3 x4 x5 x6 x7 x8 x9 ⊢
      have HNB : Hid (∀ W, Chg (fun k => k = g ∨ vr.ownBlock = some k) wf W → ∀ i u, wf.cell? ⟨g8, i, none⟩ = some u → W.cell? ⟨g8, i, none⟩ = some u) := by
        show ∀ W, _
        intro W hW i u hu
        refine hW.cell (fun e => ?_) hu
        have hgr : g < wr.heap.size := by simpa using cell_block HGO.out.1.1
        rcases e with e | e
        · have e2 : g8 = g := e; omega
        · have := (owns_lt HGO.out.1.2.2.1 _ e).2; have e2 : g8 < wr.heap.size := this; omega
      have hBf : B ≤ wf.heap.size := by omega
      have hgw : w.heap.size ≤ g8 := by omega
      clear hg8 hwfb
      have hcl : cur.length ≤ 79000000 + 1000000 := by omega
      go_wp2_with fail
      refine (CB.out wf vr cur k' HGOf.out.1 hBf (by omega)).mono ?_
      rintro e w4 ⟨rfl, v4, h4, hc4, hv4⟩
      have hst4 : WStep wf B g vr (cur ++ [kindB k']) w4 := ⟨v4, h4, hc4, hv4⟩
      have H4 := Lib.hid h4
      have HC4 := Lib.hid hc4
      have HV4 := Lib.hid hv4
      have X0 := Lib.hid x0
      have X1 := Lib.hid x1
      have X2 := Lib.hid x2
      have X3 := Lib.hid x3
      have X4 := Lib.hid x4
      have X5 := Lib.hid x5
      have X6 := Lib.hid x6
      have X7 := Lib.hid x7
      have X8 := Lib.hid x8
      have X9 := Lib.hid x9
      have x0 := HNB.out w4 hc4 _ _ X0.out
      have x1 := HNB.out w4 hc4 _ _ X1.out
      have x2 := HNB.out w4 hc4 _ _ X2.out
      have x3 := HNB.out w4 hc4 _ _ X3.out
      have x4 := HNB.out w4 hc4 _ _ X4.out
      have x5 := HNB.out w4 hc4 _ _ X5.out
      have x6 := HNB.out w4 hc4 _ _ X6.out
      have x7 := HNB.out w4 hc4 _ _ X7.out
      have x8 := HNB.out w4 hc4 _ _ X8.out
      have x9 := HNB.out w4 hc4 _ _ X9.out
      have hs4 := hc4.size
      clear h4 hc4 hv4 hst4
      go_wp2_with fail
      refine (CE.out w4 v4 (cur ++ [kindB k']) n hnn H4.out (by omega) (by simp; omega)).mono ?_
      rintro e w5 ⟨rfl, hst5⟩
      obtain ⟨v5, h5, hc5, hv5⟩ := WStep.trans HC4.out HV4.out hst5
      have x0 := HNB.out w5 hc5 _ _ X0.out
      have x1 := HNB.out w5 hc5 _ _ X1.out
      have x2 := HNB.out w5 hc5 _ _ X2.out
      have x3 := HNB.out w5 hc5 _ _ X3.out
      have x4 := HNB.out w5 hc5 _ _ X4.out
      have x5 := HNB.out w5 hc5 _ _ X5.out
      have x6 := HNB.out w5 hc5 _ _ X6.out
      have x7 := HNB.out w5 hc5 _ _ X7.out
      have x8 := HNB.out w5 hc5 _ _ X8.out
      have x9 := HNB.out w5 hc5 _ _ X9.out
      have H5 := Lib.hid h5
      have HC5 := Lib.hid hc5
      have HV5 := Lib.hid hv5
      have hs5 := hc5.size
      clear h5 hc5 hv5 hst5
      obtain ⟨v5', hgo5⟩ : ∃ v', WGo w B g v (cur ++ [kindB k'] ++ sl n ++ [0]) v' w5 ∧ v' = v5 := ⟨v5, ⟨H5.out, HGOf.out.2.1.trans HC5.out (fun i hi e => by
        rcases e with e | e
        · exact .inl e
        · rcases HGOf.out.2.2 i e with h | h
          · exact .inr h
          · omega), fun k hk => by
        rcases HV5.out k hk with h | h
        · exact HGOf.out.2.2 k h
        · right; omega⟩, rfl⟩
      obtain ⟨hgo5, rfl⟩ := hgo5
      have HGO5 := Lib.hid hgo5
      clear hgo5
      go_wp2_with fail
      refine (CV.out w5 v5' _ (HGO5.out.under HWT.out HW0.out hwB hwg) HGO5.out.1 (by omega) (by have := HSL.out; simp; omega)).mono ?_
      rintro e w6 ⟨rfl, hst6⟩
      obtain ⟨v6, hgo6⟩ := HGO5.out.step hst6
      have HGO6 : Hid (WGo w B g v (cur ++ [kindB k'] ++ (sl n ++ [0]) ++ VB) v6 w6) := by
        have e : cur ++ [kindB k'] ++ sl n ++ [0] ++ VB = cur ++ [kindB k'] ++ (sl n ++ [0]) ++ VB := by simp
        rw [← e]; exact hgo6
      clear hst6 hgo6 x0 x1 x2 x3 x4 x5 x6 x7 x8 x9
      have hsl2 := HSL.out
      go_wp2_with fail
      go_roundw
      case rel => exact ⟨j + 1, v6, _, by simp, by rw [HKL.out]; omega, HTN, HGO6.out, by simp; omega⟩
      case measure => simp [intOf]; omega
    · have hend := htot.out
      rw [kidsB_end kids j (by rw [HKL.out]; omega), List.append_nil] at hend
      subst hend
      have hkl2 : (bs ++ leBytes 4 0 ++ kidsB kids).length = bs.length + 4 + (kidsB kids).length := by simp [leB_len]; omega
      go_wp2_with fail
      refine (CB.out wr vr _ 0 HGO.out.1 (by omega) (by rw [hkl2]; omega)).mono ?_
      rintro e w7 ⟨rfl, hst7⟩
      obtain ⟨v7, hgo7⟩ := HGO.out.step hst7
      have hgo7 : WGo w B g v (bs ++ leBytes 4 0 ++ kidsB kids ++ [0]) v7 w7 := hgo7
      have HGO7 := Lib.hid hgo7
      clear hst7 hgo7
      have hkl3 : (bs ++ leBytes 4 0 ++ kidsB kids ++ [0]).length = bs.length + ((kidsB kids).length + 5) := by rw [List.length_append, hkl2]; simp; omega
      go_wp2_with fail
      refine (CL.out w7 v7 _ HGO7.out.1).mono ?_
      rintro e w8 ⟨rfl, rfl⟩
      rw [hkl3]
      obtain ⟨KL, hKL⟩ : ∃ x, x = (kidsB kids).length := ⟨_, rfl⟩
      have hset := set_head bs (kidsB kids) (KL + 5) (by rw [hKL])
      have HSE := Lib.hid hset
      rw [← hKL] at hkb hkl3 ⊢
      have HKL3 := Lib.hid hkl3
      clear hset hkl2 hkl3 hKL
      have e1 : IntKind.i64.wrap (((bs.length + (KL + 5) : Nat) : Int) - (bs.length : Int)) = ((KL + 5 : Nat) : Int) := by
        rw [show (((bs.length + (KL + 5) : Nat) : Int) - (bs.length : Int)) = ((KL + 5 : Nat) : Int) by omega]
        exact IntWalk.i64_in _ (by omega)
      have e2 : IntKind.u64.wrap ((KL + 5 : Nat) : Int) = ((KL + 5 : Nat) : Int) := wrap_u64_of (by omega) (by omega)
      have CS2 : Hid (∀ X : Int, X = ((KL + 5 : Nat) : Int) → Calls Try.prog 64 #[.pointer (some ⟨g, 0, none⟩), .int .i64 bs.length, .int .u64 X, .int .i64 4] w7 fun e w' => e = .returned (.bool true) ∧ SetPost w7 B g v7 (bs ++ docOf (kidsB kids)) w') := by
        show ∀ X, _
        rintro X rfl
        rw [← HSE.out]
        exact CS.out w7 v7 _ bs.length (KL + 5) (by unfold okSize; omega) (by rw [HKL3.out]; omega) HGO7.out.1 (by rw [HKL3.out]; omega)
      go_wp2_with fail
      refine (CS2.out _ (by omega)).mono ?_
      rintro e w9 ⟨rfl, hw9, hc9⟩
      have HW9 : Hid (WStep w B g v (bs ++ docOf (kidsB kids)) w9) := WStep.trans HGO7.out.2.1 HGO7.out.2.2 ⟨v7, hw9, hc9.weaken (fun _ _ e => .inr e), fun k hk => .inl hk⟩
      clear hw9 hc9
      go_wp2_with fail
      go_end0
      exact ⟨rfl, HW9.out⟩

end Go.Proofs.Ytkcfkdmffbhljaa
