/- The reference's reader of documents: a document. -/
import Derived.Test.YtkcfkdmffbhljaaRbE
import Derived.Test.YtkcfkdmffbhljaaRbV
import Derived.Test.YtkcfkdmffbhljaaBiE
namespace Go.Proofs.Ytkcfkdmffbhljaa
open Go.RowKit
set_option linter.unusedVariables false
set_option linter.unusedSimpArgs false

/-- What holds ahead of an element. -/
def DRel2 (rb b o n c : Nat) (L : List UInt8) (d p z win how last : Nat) (w : World) (x i : Value) (wr : World) : Prop :=
  ∃ at' v cur, x = v ∧ i = .int .i64 (at' : Nat) ∧ at' ≤ last ∧ p + 4 ≤ at' ∧ cur.len ≤ at' ∧ RRd wr rb b o n c L d 0 0 ∧ OwnK wr w.heap.size (fun k => w.heap.size ≤ k) v cur ∧ Hid (∀ r, Q L d (.els at' last win) r → Q L d (.doc p z win how) (preF cur r)) ∧ Below w.heap.size w wr

set_option maxRecDepth 100000 in
set_option maxHeartbeats 16000000 in
theorem rdc_step (dd : Nat) (hof : ∀ d', d' < dd → RVlSaid d') : RDcSaid dd := by
  intro rb b o n c L d w h p z win how just hpz hzn hd hw hhow hwin hjust
  have hL : L.length = n := h.rd.1
  have hnc := h.nc
  have hnb := h.nb
  have c0 := h.c0
  have c1 := h.c1
  have HR := Lib.hid h
  have CB := Lib.hid (fun W (h : RRd W rb b o n c L d 0 0) er a => rdbad_calls h er a)
  have CL := Lib.hid (fun p hp => rdlen_calls h p hp)
  have HRB := Lib.hid h.lt
  clear h
  have e1 : IntKind.i64.wrap ((z : Int) - (p : Int)) = (z : Int) - (p : Int) := IntWalk.i64_in _ (by omega)
  by_cases h1 : d ≤ win
  · have HX : Hid (Q L d (.doc p z win how) (.bad 8 p)) := .doc_bad (by unfold docH; rw [if_pos h1])
    have d1 : decide ((d : Int) ≤ (win : Int)) = true := by simpa using h1
    clear hwin hjust
    go_enter Try.func39, Try.ntmps39
    go_wp2_with fail
    refine (CB.out w HR.out 8 p).mono ?_
    rintro e w2 ⟨rfl, hE2⟩
    have HE2 := Lib.hid hE2
    clear hE2
    go_wp2_with fail
    refine bodyPost_ret (v := .tuple #[.slice none 0 0, .int .i64 0]) (by simp [results, Try.results39, go_sem, *]) rfl ?_
    exact ⟨_, HX.out, ⟨none, 0, 0, 0, rfl⟩, HE2.out⟩
  have d1 : decide ((d : Int) ≤ (win : Int)) = false := by simp; omega
  by_cases h2 : z < p + 4
  · have HX : Hid (Q L d (.doc p z win how) (.bad 2 p)) := .doc_bad (by unfold docH; rw [if_neg h1, if_pos h2])
    have d2 : decide ((z : Int) - (p : Int) < 4) = true := by simp; omega
    clear h2 hwin hjust
    go_enter Try.func39, Try.ntmps39
    go_wp2_with fail
    refine (CB.out w HR.out 2 p).mono ?_
    rintro e w2 ⟨rfl, hE2⟩
    have HE2 := Lib.hid hE2
    clear hE2
    go_wp2_with fail
    refine bodyPost_ret (v := .tuple #[.slice none 0 0, .int .i64 0]) (by simp [results, Try.results39, go_sem, *]) rfl ?_
    exact ⟨_, HX.out, ⟨none, 0, 0, 0, rfl⟩, HE2.out⟩
  have d2 : decide ((z : Int) - (p : Int) < 4) = false := by simp; omega
  have hp4n : p + 4 ≤ n := by omega
  obtain ⟨N, hN⟩ : ∃ N, N = len4 L p := ⟨_, rfl⟩
  have HN := Lib.hid hN
  have hNb : -2147483648 ≤ N ∧ N < 2147483648 := by
    rw [hN]; unfold len4
    have := le_seg_lt L p 4
    split <;> omega
  by_cases h3 : N < 5
  · have HX : Hid (Q L d (.doc p z win how) (.bad 6 p)) := .doc_bad (by unfold docH; rw [if_neg h1, if_neg h2, if_pos (.inl (by rw [← hN]; exact h3))])
    have d3 : decide (N < 5) = true := by simpa using h3
    clear h3 hN hNb hwin hjust
    go_enter Try.func39, Try.ntmps39
    go_wp2_with fail
    refine (CL.out p (by omega)).mono ?_
    rintro e w1 ⟨rfl, rfl⟩
    rw [← HN.out]
    go_wp2_with fail
    refine (CB.out w HR.out 6 p).mono ?_
    rintro e w2 ⟨rfl, hE2⟩
    have HE2 := Lib.hid hE2
    clear hE2
    go_wp2_with fail
    refine bodyPost_ret (v := .tuple #[.slice none 0 0, .int .i64 0]) (by simp [results, Try.results39, go_sem, *]) rfl ?_
    exact ⟨_, HX.out, ⟨none, 0, 0, 0, rfl⟩, HE2.out⟩
  have d3 : decide (N < 5) = false := by simp; omega
  by_cases h4 : (z : Int) - p < N
  · have HX : Hid (Q L d (.doc p z win how) (.bad 6 p)) := .doc_bad (by unfold docH; rw [if_neg h1, if_neg h2, if_pos (.inr (.inl (by rw [← hN]; exact h4)))])
    have d4 : decide ((z : Int) - (p : Int) < N) = true := by simpa using h4
    clear h3 h4 hN hNb hwin hjust
    go_enter Try.func39, Try.ntmps39
    go_wp2_with fail
    refine (CL.out p (by omega)).mono ?_
    rintro e w1 ⟨rfl, rfl⟩
    rw [← HN.out]
    go_wp2_with fail
    refine (CB.out w HR.out 6 p).mono ?_
    rintro e w2 ⟨rfl, hE2⟩
    have HE2 := Lib.hid hE2
    clear hE2
    go_wp2_with fail
    refine bodyPost_ret (v := .tuple #[.slice none 0 0, .int .i64 0]) (by simp [results, Try.results39, go_sem, *]) rfl ?_
    exact ⟨_, HX.out, ⟨none, 0, 0, 0, rfl⟩, HE2.out⟩
  have d4 : decide ((z : Int) - (p : Int) < N) = false := by simp; omega
  obtain ⟨N1, rfl⟩ : ∃ N1 : Nat, N = (N1 : Int) := ⟨N.toNat, by omega⟩
  obtain ⟨en, hen⟩ : ∃ x : Nat, x = p + N1 := ⟨_, rfl⟩
  obtain ⟨last, hlast⟩ : ∃ x : Nat, x = en - 1 := ⟨_, rfl⟩
  have w3 : IntKind.i64.wrap ((p : Int) + (N1 : Int)) = (en : Int) := (IntWalk.i64_in _ (by omega)).trans (by omega)
  have w4 : IntKind.i64.wrap ((en : Int) - 1) = (last : Int) := (IntWalk.i64_in _ (by omega)).trans (by omega)
  have w5 : IntKind.i64.wrap ((p : Int) + 4) = ((p + 4 : Nat) : Int) := (IntWalk.i64_in _ (by omega)).trans (by omega)
  have w6 : IntKind.i64.wrap ((last : Int) + 1) = (en : Int) := (IntWalk.i64_in _ (by omega)).trans (by omega)
  obtain ⟨p4, hp4⟩ : ∃ x : Nat, x = p + 4 := ⟨_, rfl⟩
  rw [← hp4] at w5
  have hcs : how = 0 ∨ how = 1 ∨ how = 2 := by omega
  have HOF := Lib.hid hof
  have hlz : last < z := by omega
  have hl4 : p4 ≤ last := by omega
  have hlp : last - p4 + 5 ≤ dd := by omega
  have hwl : win + (last - p4) ≤ 1999997 := by omega
  have hbB : Hid (b < w.heap.size) := by
    show b < _
    simpa using cell_block (HR.out.at p (by omega))
  have HEN : Hid (en = last + 1) := by show _ = _; omega
  have HP4 : Hid (p4 = p + 4) := hp4
  have DH : Hid (∀ X, docH L d p z win how = X → X = docH L d p z win how) := Lib.hid (fun X hX => hX.symm)
  have HDH : Hid (docH L d p z win how = if how = 2 ∧ (p : Int) + (N1 : Int) ≠ z then .error (6, p) else if how = 1 ∧ (p : Int) + (N1 : Int) < z then .error (7, en) else .ok last) := by
    show _ = _
    unfold docH
    rw [if_neg h1, if_neg h2]
    rw [← hN]
    by_cases h5 : how = 2 ∧ (p : Int) + (N1 : Int) ≠ z
    · rw [if_pos (.inr (.inr h5)), if_pos h5]
    · rw [if_neg (by omega), if_neg h5, hlast, hen]
      rfl
  clear hof DH
  rcases hcs with rfl | rfl | rfl
  · obtain rfl : just = false := by simpa using hjust
    have hw0 : win ≠ 0 := by omega
    have d5 : ((win : Int) == 0) = false := by simp; omega
    have HX : Hid (docH L d p z win 0 = .ok last) := by show _ = _; rw [HDH.out, if_neg (by simp), if_neg (by simp)]
    clear hjust hwin HDH
    have HGO : Hid (∀ r, Q L d (.els p4 last win) r → Q L d (.doc p z win 0) (preF .nil r)) := Lib.hid (fun r hr => by rw [preF_nil]; rw [HP4.out] at hr; exact .doc_go HX.out hr)
    clear hN hNb hen hlast hp4 h2 h3 h4
    go_enter Try.func39, Try.ntmps39
    go_wp2_with fail
    refine (CL.out p (by omega)).mono ?_
    rintro e w1 ⟨rfl, rfl⟩
    rw [← HN.out]
    go_upto_region 17 with fail
    go_loopw [14, 15] (fun x i wr => DRel2 rb b o n c L d p z win 0 last w x i wr) (fun _ i _ => last - (intOf i).toNat + 1)
    case atStart => exact ⟨p4, _, .nil, rfl, rfl, hl4, Nat.le_of_eq HP4.out.symm, by simp [F.len], HR.out, OwnK.nil _ _ _, HGO.out, Below.refl _ _⟩
    case round =>
      obtain ⟨at', v, cur, rfl, rfl, hal, hpa, hcl, hrr, hown, hrel, hbl⟩ := hrel
      have HRR := Lib.hid hrr
      have HO := Lib.hid hown
      have HB := Lib.hid hbl
      have c0 := hrr.c0
      have c4 := hrr.c4
      have i1 : (0 : Int) ≤ (at' : Int) := by omega
      have i2 : (at' : Int) < (n : Int) := by omega
      clear hown hbl c1
      by_cases hl : at' = last
      · subst hl
        obtain ⟨X, hX⟩ : ∃ X, X = bAt L at' := ⟨_, rfl⟩
        have hcx : wr.cell? ⟨b, o + at', none⟩ = some (.int .u8 (X : Nat)) := by rw [hX]; exact hrr.at at' (by omega)
        have hXlt := bAt_lt L at'
        clear hrr
        by_cases h0 : X = 0
        · have HQ : Hid (Q L d (.doc p z win 0) (.kids cur en)) := by
            have := hrel.out (.kids .nil (at' + 1)) (.els_end (by unfold elsH; rw [if_pos rfl, ← hX]; simp [h0]))
            rw [← HEN.out] at this
            exact Lib.hid (by simpa [preF, append_nil'] using this)
          subst h0
          clear hX hXlt hrel
          obtain ⟨a2, c2, e2, hks, hroom, hfl⟩ := HO.out.reads (fun k hk => hk)
          subst e2
          have HKS := Lib.hid hks
          have HRM := Lib.hid hroom
          have HFL := Lib.hid hfl
          clear hks hroom hfl
          go_wp2_with fail
          refine bodyPost_ret (v := .tuple #[.slice a2 cur.len c2, .int .i64 (en : Nat)]) (by simp [results, Try.results39, go_sem, *]) rfl ?_
          exact ⟨_, HQ.out, ⟨a2, c2, rfl, HKS.out, HRM.out, HFL.out⟩, HB.out⟩
        · have HQ : Hid (Q L d (.doc p z win 0) (.bad 3 at')) := by
            have := hrel.out (.bad 3 at') (.els_end (by unfold elsH; rw [if_pos rfl, if_pos (by rw [← hX]; exact h0)]))
            exact Lib.hid (by simpa [preF] using this)
          have d0 : ((X : Int) != 0) = true := by simpa using h0
          clear hX hXlt hrel h0
          obtain ⟨a2, c2, e2, -⟩ := HO.out.reads (fun k hk => hk)
          subst e2
          go_wp2_with fail
          refine (CB.out wr HRR.out 3 at').mono ?_
          rintro e w2 ⟨rfl, hE2⟩
          have HE2 := Lib.hid (hE2.from HB.out)
          clear hE2
          go_wp2_with fail
          refine bodyPost_ret (v := .tuple #[.slice a2 cur.len c2, .int .i64 (en : Nat)]) (by simp [results, Try.results39, go_sem, *]) rfl ?_
          exact ⟨_, HQ.out, ⟨a2, cur.len, c2, en, rfl⟩, HE2.out⟩
      · have dl : ((at' : Int) == (last : Int)) = false := by simp; omega
        have CE := Lib.hid (rel_step (dd - 1) (HOF.out (dd - 1) (by omega)) hrr at' last win (by omega) (by omega) (by omega) (by omega))
        clear hrr
        go_wp2_with fail
        refine CE.out.mono ?_
        rintro e w2 (⟨er, a, hq, ⟨cs, nx, ⟨nm, k, bits, hi, lo, text, more, sub, ab, nb, cb, ak, nk, ck, rfl⟩, rfl⟩, hE2⟩ | ⟨nm, kk, q, t, nx, hel, hq, ⟨k, bits, hi, lo, text, more, sub, ab, nb, cb, ak, nk, ck, rfl, hrd⟩, hnm, hb2⟩)
        · have HQ : Hid (Q L d (.doc p z win 0) (.bad er a)) := by
            have h9 : Q L d (.els at' last win) (.bad er a) := by
              rcases hq with hq | ⟨nm, k, q, h8, h7⟩
              · exact .els_end hq
              · exact .els_bad h8 h7
            have := hrel.out _ h9
            exact Lib.hid (by simpa [preF] using this)
          have her : ((er : Int) != 0) = true := by
            have := HQ.out.bd hpz (by omega)
            simp
            omega
          obtain ⟨w3, hw3⟩ : ∃ W, W = w2.alloc (.cells #[.string nm, .int .i64 k, .int .u64 (bits : Nat), .int .u64 (hi : Nat), .int .u64 (lo : Nat), .string text, .string more, .int .i64 sub, .slice ab nb cb, .slice ak nk ck] 57) := ⟨_, rfl⟩
          have h23 : Below w2.heap.size w2 w3 := by rw [hw3]; exact (Below.refl _ _).alloc (Nat.le_refl _) _
          have HE3 : Hid (RErr rb b o n c L d er a w w3) := (hE2.from HB.out).then h23
          have c4 := HE3.out.1.c4
          clear hq hE2 h23 hrel CE
          go_upto_region 22 with fail
          rw [← hw3]
          clear hw3
          go_wp2_with fail
          refine bodyPost_ret (v := .tuple #[.slice none 0 0, .int .i64 0]) (by simp [results, Try.results39, go_sem, *]) rfl ?_
          exact ⟨_, HQ.out, ⟨none, 0, 0, 0, rfl⟩, HE3.out⟩
        · have HREL : Hid (∀ r, Q L d (.els nx last win) r → Q L d (.doc p z win 0) (preF (cur.append (.cons nm t .nil)) r)) := Lib.hid (fun r hr => by
            rw [preF_one]
            exact hrel.out _ (.els_go hel hq hr))
          have hbd := hq.bd
          obtain ⟨g1, g2, g3, g4, g5⟩ := elsH_ok hel
          have hbe := (endQ_bd (b := L) (q := at' + 1) (z := last) (by omega) (by omega)).2 _ _ g5
          have hbn := hbd (by omega) (by omega)
          have hnx : at' < nx ∧ nx ≤ last := by omega
          have HNX := Lib.hid hnx
          obtain ⟨w3, hw3⟩ : ∃ W, W = w2.alloc (.cells #[.string nm, .int .i64 k, .int .u64 (bits : Nat), .int .u64 (hi : Nat), .int .u64 (lo : Nat), .string text, .string more, .int .i64 sub, .slice ab nb cb, .slice ak nk ck] 57) := ⟨_, rfl⟩
          obtain ⟨g9, hg9⟩ : ∃ x, x = w2.heap.size := ⟨_, rfl⟩
          have h23 : Below w2.heap.size w2 w3 := by rw [hw3]; exact (Below.refl _ _).alloc (Nat.le_refl _) _
          have hR3 := (HRR.out.keep hb2).keep h23
          have HR3 := Lib.hid hR3
          have HT3 := Lib.hid (hrd.keep (KeepS.below h23))
          have HO3 := Lib.hid ((HO.out.keep hb2).keep h23)
          have HB3 : Hid (Below w.heap.size w w3) := HB.out.trans ((hb2.trans (h23.mono hb2.size)).mono HB.out.size)
          have hfz : (w3.cell? ⟨g9, 0, none⟩ = some (.string nm) ∧ w3.cell? ⟨g9, 1, none⟩ = some (.int .i64 k) ∧ w3.cell? ⟨g9, 2, none⟩ = some (.int .u64 (bits : Nat)) ∧ w3.cell? ⟨g9, 3, none⟩ = some (.int .u64 (hi : Nat)) ∧ w3.cell? ⟨g9, 4, none⟩ = some (.int .u64 (lo : Nat)) ∧ w3.cell? ⟨g9, 5, none⟩ = some (.string text) ∧ w3.cell? ⟨g9, 6, none⟩ = some (.string more) ∧ w3.cell? ⟨g9, 7, none⟩ = some (.int .i64 sub) ∧ w3.cell? ⟨g9, 8, none⟩ = some (.slice ab nb cb) ∧ w3.cell? ⟨g9, 9, none⟩ = some (.slice ak nk ck)) ∧ g9 < w3.heap.size := by
            rw [hw3, hg9]
            refine ⟨⟨?_, ?_, ?_, ?_, ?_, ?_, ?_, ?_, ?_, ?_⟩, ?_⟩ <;> simp [go_sem]
          have HFR := Lib.hid (fun k (hk : u14.ownBlock = some k) => (HO.out.far k hk))
          have hsz2 : wr.heap.size ≤ w2.heap.size := hb2.size
          have HS2 := Lib.hid hsz2
          have HWR : Hid (w.heap.size ≤ wr.heap.size) := HB.out.size
          have HNM : Hid (nm.size ≤ 9223372036854775807) := by show _ ≤ _; omega
          have c4 := hR3.c4
          have c0 := hR3.c0
          have hlt3 := hR3.lt
          obtain ⟨⟨f0, f1, f2, f3, f4, f5, f6, f7, f8, f9⟩, l0⟩ := hfz
          clear hq hel hbd g1 g2 g3 g4 g5 hbe hbn hnx hrel hb2 h23 hR3 hrd CE hsz2
          go_upto_region 22 with fail
          rw [← hw3, ← hg9]
          clear hw3 hg9
          go_wp2_with (at_builtin; refine wpList_appK (v := u14) (f := cur) (B := w.heap.size) (L := fun k => w.heap.size ≤ k) (sv := .slice (some ⟨w3.heap.size, 0, none⟩) 1 1) (g := .cons nm t .nil) (S1 := fun k => wr.heap.size ≤ k) (by rfl) _ _ (by rfl) (by rfl) (HO3.out.keep ((Below.refl _ _).alloc (Nat.le_refl _) _)) (by rfl) (SrcK.one (HT3.out.keep (KeepS.below ((Below.refl _ _).alloc (Nat.le_refl _) _))) HNM.out (new_cells _ _ _ _ rfl)) ?o1 ?o3 ?o4 ?_)
          case o1 => exact fun k hk => ⟨by have e2 : wr.heap.size ≤ k := hk; have := HWR.out; show w.heap.size ≤ k; omega, fun e => by have e2 : wr.heap.size ≤ k := hk; have := (HFR.out k e).2; omega⟩
          case o3 => simp [F.len]; omega
          case o4 => have := HB3.out.size; simp; omega
          intro v6 w6 ho6 ha6
          have hB6 : Below w.heap.size w w6 := ha6.below (HB3.out.trans (((Below.refl _ _).alloc (Nat.le_refl _) _).mono HB3.out.size)) (by have := HB3.out.size; simp; omega) (fun k hk => (HFR.out k hk).1)
          have hR6 : RRd w6 rb b o n c L d 0 0 := by
            have h1 := HR3.out.keep ((Below.refl w3.heap.size w3).alloc (Nat.le_refl _) (.cells #[.string nm, .int .i64 k, .int .u64 (bits : Nat), .int .u64 (hi : Nat), .int .u64 (lo : Nat), .string text, .string more, .int .i64 sub, .slice ab nb cb, .slice ak nk ck] 57))
            exact h1.chg ha6.chg (fun e => by have := (HFR.out rb e).1; have := HRB.out; omega) (fun e => by have := (HFR.out b e).1; have := hbB.out; omega)
          have HO6 := Lib.hid ho6
          have HB6 := Lib.hid hB6
          have HR6 := Lib.hid hR6
          clear ho6 ha6 hB6 hR6 f0 f1 f2 f3 f4 f5 f6 f7 f8 f9 l0 c4 c0 hlt3
          go_wp2_with fail
          go_roundw
          case rel => exact ⟨nx, _, cur.append (.cons nm t .nil), rfl, rfl, HNX.out.2, by have := HNX.out.1; omega, by rw [F.append_len]; have := HNX.out.1; simp [F.len]; omega, HR6.out, HO6.out, HREL.out, HB6.out⟩
          case measure => have := HNX.out; simp [intOf]; omega
  · obtain rfl : just = false := by simpa using hjust
    obtain rfl : win = 0 := by omega
    by_cases h6 : (p : Int) + (N1 : Int) < z
    · have HX : Hid (Q L d (.doc p z 0 1) (.bad 7 en)) := .doc_bad (by rw [HDH.out, if_neg (by simp), if_pos ⟨rfl, h6⟩])
      have d6 : decide ((en : Int) < (z : Int)) = true := by simp; omega
      have d6n : en < z := by omega
      clear hjust hwin HDH h3 h4 h6 hN hNb hen hlast hp4
      go_enter Try.func39, Try.ntmps39
      go_wp2_with fail
      refine (CL.out p (by omega)).mono ?_
      rintro e w1 ⟨rfl, rfl⟩
      rw [← HN.out]
      go_wp2_with fail
      refine (CB.out w HR.out 7 en).mono ?_
      rintro e w2 ⟨rfl, hE2⟩
      have HE2 := Lib.hid hE2
      clear hE2
      go_wp2_with fail
      refine bodyPost_ret (v := .tuple #[.slice none 0 0, .int .i64 0]) (by simp [results, Try.results39, go_sem, *]) rfl ?_
      exact ⟨_, HX.out, ⟨none, 0, 0, 0, rfl⟩, HE2.out⟩
    have d6 : decide ((en : Int) < (z : Int)) = false := by simp; omega
    have d6n : ¬ en < z := by omega
    have HX : Hid (docH L d p z 0 1 = .ok last) := by show _ = _; rw [HDH.out, if_neg (by simp), if_neg (by omega)]
    clear hjust hwin HDH h6
    have HGO : Hid (∀ r, Q L d (.els p4 last 0) r → Q L d (.doc p z 0 1) (preF .nil r)) := Lib.hid (fun r hr => by rw [preF_nil]; rw [HP4.out] at hr; exact .doc_go HX.out hr)
    clear hN hNb hen hlast hp4 h2 h3 h4
    go_enter Try.func39, Try.ntmps39
    go_wp2_with fail
    refine (CL.out p (by omega)).mono ?_
    rintro e w1 ⟨rfl, rfl⟩
    rw [← HN.out]
    go_upto_region 17 with fail
    go_loopw [14, 15] (fun x i wr => DRel2 rb b o n c L d p z 0 1 last w x i wr) (fun _ i _ => last - (intOf i).toNat + 1)
    case atStart => exact ⟨p4, _, .nil, rfl, rfl, hl4, Nat.le_of_eq HP4.out.symm, by simp [F.len], HR.out, OwnK.nil _ _ _, HGO.out, Below.refl _ _⟩
    case round =>
      obtain ⟨at', v, cur, rfl, rfl, hal, hpa, hcl, hrr, hown, hrel, hbl⟩ := hrel
      have HRR := Lib.hid hrr
      have HO := Lib.hid hown
      have HB := Lib.hid hbl
      have c0 := hrr.c0
      have c4 := hrr.c4
      have i1 : (0 : Int) ≤ (at' : Int) := by omega
      have i2 : (at' : Int) < (n : Int) := by omega
      clear hown hbl c1
      by_cases hl : at' = last
      · subst hl
        obtain ⟨X, hX⟩ : ∃ X, X = bAt L at' := ⟨_, rfl⟩
        have hcx : wr.cell? ⟨b, o + at', none⟩ = some (.int .u8 (X : Nat)) := by rw [hX]; exact hrr.at at' (by omega)
        have hXlt := bAt_lt L at'
        clear hrr
        by_cases h0 : X = 0
        · have HQ : Hid (Q L d (.doc p z 0 1) (.kids cur en)) := by
            have := hrel.out (.kids .nil (at' + 1)) (.els_end (by unfold elsH; rw [if_pos rfl, ← hX]; simp [h0]))
            rw [← HEN.out] at this
            exact Lib.hid (by simpa [preF, append_nil'] using this)
          subst h0
          clear hX hXlt hrel
          obtain ⟨a2, c2, e2, hks, hroom, hfl⟩ := HO.out.reads (fun k hk => hk)
          subst e2
          have HKS := Lib.hid hks
          have HRM := Lib.hid hroom
          have HFL := Lib.hid hfl
          clear hks hroom hfl
          go_wp2_with fail
          refine bodyPost_ret (v := .tuple #[.slice a2 cur.len c2, .int .i64 (en : Nat)]) (by simp [results, Try.results39, go_sem, *]) rfl ?_
          exact ⟨_, HQ.out, ⟨a2, c2, rfl, HKS.out, HRM.out, HFL.out⟩, HB.out⟩
        · have HQ : Hid (Q L d (.doc p z 0 1) (.bad 3 at')) := by
            have := hrel.out (.bad 3 at') (.els_end (by unfold elsH; rw [if_pos rfl, if_pos (by rw [← hX]; exact h0)]))
            exact Lib.hid (by simpa [preF] using this)
          have d0 : ((X : Int) != 0) = true := by simpa using h0
          clear hX hXlt hrel h0
          obtain ⟨a2, c2, e2, -⟩ := HO.out.reads (fun k hk => hk)
          subst e2
          go_wp2_with fail
          refine (CB.out wr HRR.out 3 at').mono ?_
          rintro e w2 ⟨rfl, hE2⟩
          have HE2 := Lib.hid (hE2.from HB.out)
          clear hE2
          go_wp2_with fail
          refine bodyPost_ret (v := .tuple #[.slice a2 cur.len c2, .int .i64 (en : Nat)]) (by simp [results, Try.results39, go_sem, *]) rfl ?_
          exact ⟨_, HQ.out, ⟨a2, cur.len, c2, en, rfl⟩, HE2.out⟩
      · have dl : ((at' : Int) == (last : Int)) = false := by simp; omega
        have CE := Lib.hid (rel_step (dd - 1) (HOF.out (dd - 1) (by omega)) hrr at' last 0 (by omega) (by omega) (by omega) (by omega))
        clear hrr
        go_wp2_with fail
        refine CE.out.mono ?_
        rintro e w2 (⟨er, a, hq, ⟨cs, nx, ⟨nm, k, bits, hi, lo, text, more, sub, ab, nb, cb, ak, nk, ck, rfl⟩, rfl⟩, hE2⟩ | ⟨nm, kk, q, t, nx, hel, hq, ⟨k, bits, hi, lo, text, more, sub, ab, nb, cb, ak, nk, ck, rfl, hrd⟩, hnm, hb2⟩)
        · have HQ : Hid (Q L d (.doc p z 0 1) (.bad er a)) := by
            have h9 : Q L d (.els at' last 0) (.bad er a) := by
              rcases hq with hq | ⟨nm, k, q, h8, h7⟩
              · exact .els_end hq
              · exact .els_bad h8 h7
            have := hrel.out _ h9
            exact Lib.hid (by simpa [preF] using this)
          have her : ((er : Int) != 0) = true := by
            have := HQ.out.bd hpz (by omega)
            simp
            omega
          obtain ⟨w3, hw3⟩ : ∃ W, W = w2.alloc (.cells #[.string nm, .int .i64 k, .int .u64 (bits : Nat), .int .u64 (hi : Nat), .int .u64 (lo : Nat), .string text, .string more, .int .i64 sub, .slice ab nb cb, .slice ak nk ck] 57) := ⟨_, rfl⟩
          have h23 : Below w2.heap.size w2 w3 := by rw [hw3]; exact (Below.refl _ _).alloc (Nat.le_refl _) _
          have HE3 : Hid (RErr rb b o n c L d er a w w3) := (hE2.from HB.out).then h23
          have c4 := HE3.out.1.c4
          clear hq hE2 h23 hrel CE
          go_upto_region 22 with fail
          rw [← hw3]
          clear hw3
          go_wp2_with fail
          refine bodyPost_ret (v := .tuple #[.slice none 0 0, .int .i64 0]) (by simp [results, Try.results39, go_sem, *]) rfl ?_
          exact ⟨_, HQ.out, ⟨none, 0, 0, 0, rfl⟩, HE3.out⟩
        · have HREL : Hid (∀ r, Q L d (.els nx last 0) r → Q L d (.doc p z 0 1) (preF (cur.append (.cons nm t .nil)) r)) := Lib.hid (fun r hr => by
            rw [preF_one]
            exact hrel.out _ (.els_go hel hq hr))
          have hbd := hq.bd
          obtain ⟨g1, g2, g3, g4, g5⟩ := elsH_ok hel
          have hbe := (endQ_bd (b := L) (q := at' + 1) (z := last) (by omega) (by omega)).2 _ _ g5
          have hbn := hbd (by omega) (by omega)
          have hnx : at' < nx ∧ nx ≤ last := by omega
          have HNX := Lib.hid hnx
          obtain ⟨w3, hw3⟩ : ∃ W, W = w2.alloc (.cells #[.string nm, .int .i64 k, .int .u64 (bits : Nat), .int .u64 (hi : Nat), .int .u64 (lo : Nat), .string text, .string more, .int .i64 sub, .slice ab nb cb, .slice ak nk ck] 57) := ⟨_, rfl⟩
          obtain ⟨g9, hg9⟩ : ∃ x, x = w2.heap.size := ⟨_, rfl⟩
          have h23 : Below w2.heap.size w2 w3 := by rw [hw3]; exact (Below.refl _ _).alloc (Nat.le_refl _) _
          have hR3 := (HRR.out.keep hb2).keep h23
          have HR3 := Lib.hid hR3
          have HT3 := Lib.hid (hrd.keep (KeepS.below h23))
          have HO3 := Lib.hid ((HO.out.keep hb2).keep h23)
          have HB3 : Hid (Below w.heap.size w w3) := HB.out.trans ((hb2.trans (h23.mono hb2.size)).mono HB.out.size)
          have hfz : (w3.cell? ⟨g9, 0, none⟩ = some (.string nm) ∧ w3.cell? ⟨g9, 1, none⟩ = some (.int .i64 k) ∧ w3.cell? ⟨g9, 2, none⟩ = some (.int .u64 (bits : Nat)) ∧ w3.cell? ⟨g9, 3, none⟩ = some (.int .u64 (hi : Nat)) ∧ w3.cell? ⟨g9, 4, none⟩ = some (.int .u64 (lo : Nat)) ∧ w3.cell? ⟨g9, 5, none⟩ = some (.string text) ∧ w3.cell? ⟨g9, 6, none⟩ = some (.string more) ∧ w3.cell? ⟨g9, 7, none⟩ = some (.int .i64 sub) ∧ w3.cell? ⟨g9, 8, none⟩ = some (.slice ab nb cb) ∧ w3.cell? ⟨g9, 9, none⟩ = some (.slice ak nk ck)) ∧ g9 < w3.heap.size := by
            rw [hw3, hg9]
            refine ⟨⟨?_, ?_, ?_, ?_, ?_, ?_, ?_, ?_, ?_, ?_⟩, ?_⟩ <;> simp [go_sem]
          have HFR := Lib.hid (fun k (hk : u14.ownBlock = some k) => (HO.out.far k hk))
          have hsz2 : wr.heap.size ≤ w2.heap.size := hb2.size
          have HS2 := Lib.hid hsz2
          have HWR : Hid (w.heap.size ≤ wr.heap.size) := HB.out.size
          have HNM : Hid (nm.size ≤ 9223372036854775807) := by show _ ≤ _; omega
          have c4 := hR3.c4
          have c0 := hR3.c0
          have hlt3 := hR3.lt
          obtain ⟨⟨f0, f1, f2, f3, f4, f5, f6, f7, f8, f9⟩, l0⟩ := hfz
          clear hq hel hbd g1 g2 g3 g4 g5 hbe hbn hnx hrel hb2 h23 hR3 hrd CE hsz2
          go_upto_region 22 with fail
          rw [← hw3, ← hg9]
          clear hw3 hg9
          go_wp2_with (at_builtin; refine wpList_appK (v := u14) (f := cur) (B := w.heap.size) (L := fun k => w.heap.size ≤ k) (sv := .slice (some ⟨w3.heap.size, 0, none⟩) 1 1) (g := .cons nm t .nil) (S1 := fun k => wr.heap.size ≤ k) (by rfl) _ _ (by rfl) (by rfl) (HO3.out.keep ((Below.refl _ _).alloc (Nat.le_refl _) _)) (by rfl) (SrcK.one (HT3.out.keep (KeepS.below ((Below.refl _ _).alloc (Nat.le_refl _) _))) HNM.out (new_cells _ _ _ _ rfl)) ?o1 ?o3 ?o4 ?_)
          case o1 => exact fun k hk => ⟨by have e2 : wr.heap.size ≤ k := hk; have := HWR.out; show w.heap.size ≤ k; omega, fun e => by have e2 : wr.heap.size ≤ k := hk; have := (HFR.out k e).2; omega⟩
          case o3 => simp [F.len]; omega
          case o4 => have := HB3.out.size; simp; omega
          intro v6 w6 ho6 ha6
          have hB6 : Below w.heap.size w w6 := ha6.below (HB3.out.trans (((Below.refl _ _).alloc (Nat.le_refl _) _).mono HB3.out.size)) (by have := HB3.out.size; simp; omega) (fun k hk => (HFR.out k hk).1)
          have hR6 : RRd w6 rb b o n c L d 0 0 := by
            have h1 := HR3.out.keep ((Below.refl w3.heap.size w3).alloc (Nat.le_refl _) (.cells #[.string nm, .int .i64 k, .int .u64 (bits : Nat), .int .u64 (hi : Nat), .int .u64 (lo : Nat), .string text, .string more, .int .i64 sub, .slice ab nb cb, .slice ak nk ck] 57))
            exact h1.chg ha6.chg (fun e => by have := (HFR.out rb e).1; have := HRB.out; omega) (fun e => by have := (HFR.out b e).1; have := hbB.out; omega)
          have HO6 := Lib.hid ho6
          have HB6 := Lib.hid hB6
          have HR6 := Lib.hid hR6
          clear ho6 ha6 hB6 hR6 f0 f1 f2 f3 f4 f5 f6 f7 f8 f9 l0 c4 c0 hlt3
          go_wp2_with fail
          go_roundw
          case rel => exact ⟨nx, _, cur.append (.cons nm t .nil), rfl, rfl, HNX.out.2, by have := HNX.out.1; omega, by rw [F.append_len]; have := HNX.out.1; simp [F.len]; omega, HR6.out, HO6.out, HREL.out, HB6.out⟩
          case measure => have := HNX.out; simp [intOf]; omega
  · obtain rfl : just = true := by simpa using hjust
    have hw0 : win ≠ 0 := by omega
    have d5 : ((win : Int) == 0) = false := by simp; omega
    by_cases h6 : (p : Int) + (N1 : Int) = z
    case neg =>
      have HX : Hid (Q L d (.doc p z win 2) (.bad 6 p)) := .doc_bad (by rw [HDH.out, if_pos ⟨rfl, h6⟩])
      have d6 : ((N1 : Int) != (z : Int) - (p : Int)) = true := by simp; omega
      clear hjust hwin HDH h3 h4 h6 hN hNb hen hlast hp4
      go_enter Try.func39, Try.ntmps39
      go_wp2_with fail
      refine (CL.out p (by omega)).mono ?_
      rintro e w1 ⟨rfl, rfl⟩
      rw [← HN.out]
      go_wp2_with fail
      refine (CB.out w HR.out 6 p).mono ?_
      rintro e w2 ⟨rfl, hE2⟩
      have HE2 := Lib.hid hE2
      clear hE2
      go_wp2_with fail
      refine bodyPost_ret (v := .tuple #[.slice none 0 0, .int .i64 0]) (by simp [results, Try.results39, go_sem, *]) rfl ?_
      exact ⟨_, HX.out, ⟨none, 0, 0, 0, rfl⟩, HE2.out⟩
    have d6 : ((N1 : Int) != (z : Int) - (p : Int)) = false := by simp; omega
    have HX : Hid (docH L d p z win 2 = .ok last) := by show _ = _; rw [HDH.out, if_neg (by omega), if_neg (by omega)]
    clear hjust hwin HDH h6
    have HGO : Hid (∀ r, Q L d (.els p4 last win) r → Q L d (.doc p z win 2) (preF .nil r)) := Lib.hid (fun r hr => by rw [preF_nil]; rw [HP4.out] at hr; exact .doc_go HX.out hr)
    clear hN hNb hen hlast hp4 h2 h3 h4
    go_enter Try.func39, Try.ntmps39
    go_wp2_with fail
    refine (CL.out p (by omega)).mono ?_
    rintro e w1 ⟨rfl, rfl⟩
    rw [← HN.out]
    go_upto_region 17 with fail
    go_loopw [14, 15] (fun x i wr => DRel2 rb b o n c L d p z win 2 last w x i wr) (fun _ i _ => last - (intOf i).toNat + 1)
    case atStart => exact ⟨p4, _, .nil, rfl, rfl, hl4, Nat.le_of_eq HP4.out.symm, by simp [F.len], HR.out, OwnK.nil _ _ _, HGO.out, Below.refl _ _⟩
    case round =>
      obtain ⟨at', v, cur, rfl, rfl, hal, hpa, hcl, hrr, hown, hrel, hbl⟩ := hrel
      have HRR := Lib.hid hrr
      have HO := Lib.hid hown
      have HB := Lib.hid hbl
      have c0 := hrr.c0
      have c4 := hrr.c4
      have i1 : (0 : Int) ≤ (at' : Int) := by omega
      have i2 : (at' : Int) < (n : Int) := by omega
      clear hown hbl c1
      by_cases hl : at' = last
      · subst hl
        obtain ⟨X, hX⟩ : ∃ X, X = bAt L at' := ⟨_, rfl⟩
        have hcx : wr.cell? ⟨b, o + at', none⟩ = some (.int .u8 (X : Nat)) := by rw [hX]; exact hrr.at at' (by omega)
        have hXlt := bAt_lt L at'
        clear hrr
        by_cases h0 : X = 0
        · have HQ : Hid (Q L d (.doc p z win 2) (.kids cur en)) := by
            have := hrel.out (.kids .nil (at' + 1)) (.els_end (by unfold elsH; rw [if_pos rfl, ← hX]; simp [h0]))
            rw [← HEN.out] at this
            exact Lib.hid (by simpa [preF, append_nil'] using this)
          subst h0
          clear hX hXlt hrel
          obtain ⟨a2, c2, e2, hks, hroom, hfl⟩ := HO.out.reads (fun k hk => hk)
          subst e2
          have HKS := Lib.hid hks
          have HRM := Lib.hid hroom
          have HFL := Lib.hid hfl
          clear hks hroom hfl
          go_wp2_with fail
          refine bodyPost_ret (v := .tuple #[.slice a2 cur.len c2, .int .i64 (en : Nat)]) (by simp [results, Try.results39, go_sem, *]) rfl ?_
          exact ⟨_, HQ.out, ⟨a2, c2, rfl, HKS.out, HRM.out, HFL.out⟩, HB.out⟩
        · have HQ : Hid (Q L d (.doc p z win 2) (.bad 3 at')) := by
            have := hrel.out (.bad 3 at') (.els_end (by unfold elsH; rw [if_pos rfl, if_pos (by rw [← hX]; exact h0)]))
            exact Lib.hid (by simpa [preF] using this)
          have d0 : ((X : Int) != 0) = true := by simpa using h0
          clear hX hXlt hrel h0
          obtain ⟨a2, c2, e2, -⟩ := HO.out.reads (fun k hk => hk)
          subst e2
          go_wp2_with fail
          refine (CB.out wr HRR.out 3 at').mono ?_
          rintro e w2 ⟨rfl, hE2⟩
          have HE2 := Lib.hid (hE2.from HB.out)
          clear hE2
          go_wp2_with fail
          refine bodyPost_ret (v := .tuple #[.slice a2 cur.len c2, .int .i64 (en : Nat)]) (by simp [results, Try.results39, go_sem, *]) rfl ?_
          exact ⟨_, HQ.out, ⟨a2, cur.len, c2, en, rfl⟩, HE2.out⟩
      · have dl : ((at' : Int) == (last : Int)) = false := by simp; omega
        have CE := Lib.hid (rel_step (dd - 1) (HOF.out (dd - 1) (by omega)) hrr at' last win (by omega) (by omega) (by omega) (by omega))
        clear hrr
        go_wp2_with fail
        refine CE.out.mono ?_
        rintro e w2 (⟨er, a, hq, ⟨cs, nx, ⟨nm, k, bits, hi, lo, text, more, sub, ab, nb, cb, ak, nk, ck, rfl⟩, rfl⟩, hE2⟩ | ⟨nm, kk, q, t, nx, hel, hq, ⟨k, bits, hi, lo, text, more, sub, ab, nb, cb, ak, nk, ck, rfl, hrd⟩, hnm, hb2⟩)
        · have HQ : Hid (Q L d (.doc p z win 2) (.bad er a)) := by
            have h9 : Q L d (.els at' last win) (.bad er a) := by
              rcases hq with hq | ⟨nm, k, q, h8, h7⟩
              · exact .els_end hq
              · exact .els_bad h8 h7
            have := hrel.out _ h9
            exact Lib.hid (by simpa [preF] using this)
          have her : ((er : Int) != 0) = true := by
            have := HQ.out.bd hpz (by omega)
            simp
            omega
          obtain ⟨w3, hw3⟩ : ∃ W, W = w2.alloc (.cells #[.string nm, .int .i64 k, .int .u64 (bits : Nat), .int .u64 (hi : Nat), .int .u64 (lo : Nat), .string text, .string more, .int .i64 sub, .slice ab nb cb, .slice ak nk ck] 57) := ⟨_, rfl⟩
          have h23 : Below w2.heap.size w2 w3 := by rw [hw3]; exact (Below.refl _ _).alloc (Nat.le_refl _) _
          have HE3 : Hid (RErr rb b o n c L d er a w w3) := (hE2.from HB.out).then h23
          have c4 := HE3.out.1.c4
          clear hq hE2 h23 hrel CE
          go_upto_region 22 with fail
          rw [← hw3]
          clear hw3
          go_wp2_with fail
          refine bodyPost_ret (v := .tuple #[.slice none 0 0, .int .i64 0]) (by simp [results, Try.results39, go_sem, *]) rfl ?_
          exact ⟨_, HQ.out, ⟨none, 0, 0, 0, rfl⟩, HE3.out⟩
        · have HREL : Hid (∀ r, Q L d (.els nx last win) r → Q L d (.doc p z win 2) (preF (cur.append (.cons nm t .nil)) r)) := Lib.hid (fun r hr => by
            rw [preF_one]
            exact hrel.out _ (.els_go hel hq hr))
          have hbd := hq.bd
          obtain ⟨g1, g2, g3, g4, g5⟩ := elsH_ok hel
          have hbe := (endQ_bd (b := L) (q := at' + 1) (z := last) (by omega) (by omega)).2 _ _ g5
          have hbn := hbd (by omega) (by omega)
          have hnx : at' < nx ∧ nx ≤ last := by omega
          have HNX := Lib.hid hnx
          obtain ⟨w3, hw3⟩ : ∃ W, W = w2.alloc (.cells #[.string nm, .int .i64 k, .int .u64 (bits : Nat), .int .u64 (hi : Nat), .int .u64 (lo : Nat), .string text, .string more, .int .i64 sub, .slice ab nb cb, .slice ak nk ck] 57) := ⟨_, rfl⟩
          obtain ⟨g9, hg9⟩ : ∃ x, x = w2.heap.size := ⟨_, rfl⟩
          have h23 : Below w2.heap.size w2 w3 := by rw [hw3]; exact (Below.refl _ _).alloc (Nat.le_refl _) _
          have hR3 := (HRR.out.keep hb2).keep h23
          have HR3 := Lib.hid hR3
          have HT3 := Lib.hid (hrd.keep (KeepS.below h23))
          have HO3 := Lib.hid ((HO.out.keep hb2).keep h23)
          have HB3 : Hid (Below w.heap.size w w3) := HB.out.trans ((hb2.trans (h23.mono hb2.size)).mono HB.out.size)
          have hfz : (w3.cell? ⟨g9, 0, none⟩ = some (.string nm) ∧ w3.cell? ⟨g9, 1, none⟩ = some (.int .i64 k) ∧ w3.cell? ⟨g9, 2, none⟩ = some (.int .u64 (bits : Nat)) ∧ w3.cell? ⟨g9, 3, none⟩ = some (.int .u64 (hi : Nat)) ∧ w3.cell? ⟨g9, 4, none⟩ = some (.int .u64 (lo : Nat)) ∧ w3.cell? ⟨g9, 5, none⟩ = some (.string text) ∧ w3.cell? ⟨g9, 6, none⟩ = some (.string more) ∧ w3.cell? ⟨g9, 7, none⟩ = some (.int .i64 sub) ∧ w3.cell? ⟨g9, 8, none⟩ = some (.slice ab nb cb) ∧ w3.cell? ⟨g9, 9, none⟩ = some (.slice ak nk ck)) ∧ g9 < w3.heap.size := by
            rw [hw3, hg9]
            refine ⟨⟨?_, ?_, ?_, ?_, ?_, ?_, ?_, ?_, ?_, ?_⟩, ?_⟩ <;> simp [go_sem]
          have HFR := Lib.hid (fun k (hk : u14.ownBlock = some k) => (HO.out.far k hk))
          have hsz2 : wr.heap.size ≤ w2.heap.size := hb2.size
          have HS2 := Lib.hid hsz2
          have HWR : Hid (w.heap.size ≤ wr.heap.size) := HB.out.size
          have HNM : Hid (nm.size ≤ 9223372036854775807) := by show _ ≤ _; omega
          have c4 := hR3.c4
          have c0 := hR3.c0
          have hlt3 := hR3.lt
          obtain ⟨⟨f0, f1, f2, f3, f4, f5, f6, f7, f8, f9⟩, l0⟩ := hfz
          clear hq hel hbd g1 g2 g3 g4 g5 hbe hbn hnx hrel hb2 h23 hR3 hrd CE hsz2
          go_upto_region 22 with fail
          rw [← hw3, ← hg9]
          clear hw3 hg9
          go_wp2_with (at_builtin; refine wpList_appK (v := u14) (f := cur) (B := w.heap.size) (L := fun k => w.heap.size ≤ k) (sv := .slice (some ⟨w3.heap.size, 0, none⟩) 1 1) (g := .cons nm t .nil) (S1 := fun k => wr.heap.size ≤ k) (by rfl) _ _ (by rfl) (by rfl) (HO3.out.keep ((Below.refl _ _).alloc (Nat.le_refl _) _)) (by rfl) (SrcK.one (HT3.out.keep (KeepS.below ((Below.refl _ _).alloc (Nat.le_refl _) _))) HNM.out (new_cells _ _ _ _ rfl)) ?o1 ?o3 ?o4 ?_)
          case o1 => exact fun k hk => ⟨by have e2 : wr.heap.size ≤ k := hk; have := HWR.out; show w.heap.size ≤ k; omega, fun e => by have e2 : wr.heap.size ≤ k := hk; have := (HFR.out k e).2; omega⟩
          case o3 => simp [F.len]; omega
          case o4 => have := HB3.out.size; simp; omega
          intro v6 w6 ho6 ha6
          have hB6 : Below w.heap.size w w6 := ha6.below (HB3.out.trans (((Below.refl _ _).alloc (Nat.le_refl _) _).mono HB3.out.size)) (by have := HB3.out.size; simp; omega) (fun k hk => (HFR.out k hk).1)
          have hR6 : RRd w6 rb b o n c L d 0 0 := by
            have h1 := HR3.out.keep ((Below.refl w3.heap.size w3).alloc (Nat.le_refl _) (.cells #[.string nm, .int .i64 k, .int .u64 (bits : Nat), .int .u64 (hi : Nat), .int .u64 (lo : Nat), .string text, .string more, .int .i64 sub, .slice ab nb cb, .slice ak nk ck] 57))
            exact h1.chg ha6.chg (fun e => by have := (HFR.out rb e).1; have := HRB.out; omega) (fun e => by have := (HFR.out b e).1; have := hbB.out; omega)
          have HO6 := Lib.hid ho6
          have HB6 := Lib.hid hB6
          have HR6 := Lib.hid hR6
          clear ho6 ha6 hB6 hR6 f0 f1 f2 f3 f4 f5 f6 f7 f8 f9 l0 c4 c0 hlt3
          go_wp2_with fail
          go_roundw
          case rel => exact ⟨nx, _, cur.append (.cons nm t .nil), rfl, rfl, HNX.out.2, by have := HNX.out.1; omega, by rw [F.append_len]; have := HNX.out.1; simp [F.len]; omega, HR6.out, HO6.out, HREL.out, HB6.out⟩
          case measure => have := HNX.out; simp [intOf]; omega

theorem rreads_all : ∀ d : Nat, RVlSaid d ∧ RDcSaid d ∧ RScSaid d := by
  intro d
  induction d using Nat.strongRecOn with
  | _ d ih =>
    have h1 := rdc_step d (fun d' h => (ih d' h).1)
    have h2 := rsc_step d h1
    exact ⟨rvl_step d h1 h2, h1, h2⟩

end Go.Proofs.Ytkcfkdmffbhljaa
