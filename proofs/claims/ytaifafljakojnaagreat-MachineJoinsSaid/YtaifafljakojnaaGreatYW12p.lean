/- Merged of: W12p (see NOTES.md). -/
import Derived.Test.YtaifafljakojnaaGreatZ27
import Derived.Test.YtaifafljakojnaaGreatZ26
set_option linter.unusedSimpArgs false
set_option linter.unnecessarySimpa false
set_option linter.unusedVariables false

/- The contract of the reference's Verify, with the height. -/
namespace Go.Proofs.YtaifafljakojnaaGreat
open Go.RowKit

set_option maxRecDepth 100000 in
set_option maxHeartbeats 2000000 in
theorem refVerify3_any (L : Option Addr) (n c : Nat) (l : List Term) (vars : Int) (w : World) (hT : TermsR w L n l) (hn : n ≤ 100000) (h0 : 0 ≤ vars) :
    Calls Tryz.prog 13 #[.slice L n c, .int .i64 vars] w (RetVer l vars w) := by
  obtain rfl := hT.1
  have HT := Lib.hid (fun w' (k : Bel w w') => hT.keep k); clear hT
  by_cases hz : l.length = 0
  · have HF : Hid (verifyF l vars = (0, 0, 3)) := by show verifyF l vars = _; unfold verifyF; rw [if_pos (.inl hz)]
    obtain rfl : l = [] := List.eq_nil_of_length_eq_zero hz
    clear hz
    go_enter Tryz.func13, Tryz.ntmps13
    go_wp2
    go_ret3
    exact ⟨by rw [HF.out]; rfl, Bel.refl _⟩
  have hzb : decide ((l.length : Int) < 1) = false := by simp; omega
  by_cases hbig : 1024 < l.length
  · have hbb : decide (1024 < (l.length : Int)) = true := by simp; omega
    have HF : Hid (verifyF l vars = (0, 0, 3)) := by show verifyF l vars = _; unfold verifyF; rw [if_pos (.inr hbig)]
    go_enter Tryz.func13, Tryz.ntmps13
    go_wp2
    go_ret3
    exact ⟨by rw [HF.out]; rfl, Bel.refl _⟩
  have hbb : decide (1024 < (l.length : Int)) = false := by simp; omega
  have HF : Hid (verifyF l vars = verGo l vars l.length 0 (0 :: List.replicate l.length (-1)) [] 0) := by
    show verifyF l vars = _
    unfold verifyF; rw [if_neg (by omega), Int.max_eq_left h0]
  obtain ⟨i0, hi0, hz0, hz1, hz2⟩ := info_parts int_info
  have hl4 : l.length ≤ 1024 := by omega
  clear hbig
  have HO1 := Lib.hid (own_one w 0)
  go_enter Tryz.func13, Tryz.ntmps13
  go_wp2_with fail
  go_loopg [7, 8] l.length (fun gg hv iv wr => ∃ (k : Nat) (H : Option Addr) (hc : Nat), k + gg = l.length ∧ iv = .int .i64 k ∧ hv = .slice H (k + 1) hc ∧ Hid (wr.ownsRow w.heap.size 3 1 (.slice H (k + 1) hc) (k + 1) ((0 :: List.replicate k (-1)).map (Value.int .i64))) ∧ Bel w wr)
  case atStart => exact ⟨0, _, 1, by omega, rfl, rfl, HO1, (Bel.refl w).alloc _⟩
  case round =>
    clear HO1
    obtain ⟨k, H, hc, hk, rfl, rfl, HO, hb⟩ := hrel
    have hbs := hb.size
    by_cases hlt : k < l.length
    · go_wp2_with (at_builtin; refine wpList_push _ rfl (.tmp 30) (.tmp 31) 27 rfl w.heap.size 3 i0 (.int .i64 0) 1 8 Tryz.underlying27 hi0 hz0 hz1 hz2 rfl (by decide) H (k + 1) hc ((0 :: List.replicate k (-1)).map (Value.int .i64)) (by simp [Act.eval]) (HO.out.alloc _) wr.heap.size #[.int .i64 (-1)] 3 (0, 0) (by simp [Act.eval]) (heap_new _ _) rfl (one_int _ _) (by unfold maxLen; omega) (by omega) (by simp; omega) ?_; intro H' hc' w2 hown2 hgr2 hat2; have hb2 := (hb.alloc _).push (HO.out.alloc _) hgr2; replace hown2 := Lib.hid hown2; clear hgr2 hat2)
      go_roundg (gk - 1)
      case rel => exact ⟨k + 1, H', hc', by omega, by go_num, rfl, by
        have := hown2.out
        show World.ownsRow _ _ _ _ _ _ _
        rw [List.replicate_succ', List.map_cons, List.map_append] at *
        simpa using this, hb2⟩
      case measure => omega
    · obtain rfl : k = l.length := by omega
      obtain ⟨g, hcc, hv, hg0, hgl⟩ := HO.out.form (by omega)
      injection hv with hA _ hc2
      subst hA; subst hc2
      obtain ⟨wq, hwq⟩ : ∃ wq : World, wq = wr := ⟨_, rfl⟩
      subst hwq
      have hlen0 : (0 :: List.replicate l.length (-1 : Int)).length = l.length + 1 := by simp
      have HS0 : Hid (RVSt w wq g hc (0 :: List.replicate l.length (-1)) none 0 []) :=
        ⟨by rw [hlen0]; exact HO.out, World.ownsRow_nil _ _ _ _, by simp [Value.ownBlock], hb⟩
      clear hlt hk hbs hlen0 hg0 hgl
      go_wp2_with fail
      go_loopg [9, 10, 11] l.length (fun gg ov mv iv wr => ∃ (k : Nat) (O : Option Addr) (oc : Nat) (op hs : List Int) (m : Int), k + gg = l.length ∧ iv = .int .i64 k ∧ ov = .slice O op.length oc ∧ mv = .int .i64 m ∧ Hid (VInv l hs (trOf l hs op)) ∧ Hid (OInv l hs op) ∧ Hid (verGo l vars gg k hs (trOf l hs op) m = verifyF l vars) ∧ Hid (RVSt w wr g hc hs O oc op))
      case atStart => exact ⟨0, none, 0, [], _, 0, by omega, rfl, rfl, rfl, start_inv l, ⟨by simp, fun e he => by simp at he⟩, HF.out.symm, HS0⟩
      case round =>
        clear HS0 HO hb
        obtain ⟨k, O, oc, op, hs, m, hk, rfl, rfl, rfl, HI, HOI, HG, HS⟩ := hrel
        by_cases hlt : k < l.length
        · obtain ⟨q, rfl⟩ : ∃ q, gk = q + 1 := ⟨gk - 1, by omega⟩
          have hil : k < hs.length := by rw [HI.out.1]; omega
          have hyy := HI.out.2.1 hs[k] (List.getElem_mem _)
          obtain ⟨hy0, hy1⟩ := hyy
          have hig := ig_get hil
          have hceq := checks_eq (v := vars) hl4 hlt HOI.out (ig hs k)
          have hin := inner_inv HI.out
          rw [hig] at hceq
          generalize hgy : hs[k] = y at *
          have Hgy := Lib.hid hgy; have Hig := Lib.hid hig; have Hceq := Lib.hid hceq; have Hin := Lib.hid hin
          clear hgy hig hceq hin
          cases hck : checksF l vars (trOf l hs op) k (insAt l k) y with
          | false =>
            have HR : Hid (verifyF l vars = (0, (k : Int), 7)) := by
              show verifyF l vars = _
              rw [← HG.out]; simp only [verGo, stepP]
              rw [Hig.out, if_pos hck]
            go_wp2_with fail
            have hIR := own_ints HS.out.hts
            rw [HI.out.1] at hIR
            have hv1 := HI.out.1
            have hv2 := HI.out.2.1
            ((with_reducible refine (fault_any _ _ _ l k vars _ _ _ hs _ _ _ op _ (HT.out _ HS.out.bel) hIR (own_ints HS.out.opn) hn hlt hv1 HOI.out hv2).mono ?_); clear hIR hv1 hv2)
            rintro e w1 ⟨z, rfl, hz, hb1⟩
            rw [Hig.out, ← Hceq.out, hck] at hz
            replace hz : decide (0 < z) = true := hz
            go_wp2_with fail
            go_ret3
            exact ⟨by rw [HR.out]; rfl, HS.out.bel.trans hb1⟩
          | true =>
            go_wp2_with fail
            have hIR := own_ints HS.out.hts
            rw [HI.out.1] at hIR
            have hv1 := HI.out.1
            have hv2 := HI.out.2.1
            ((with_reducible refine (fault_any _ _ _ l k vars _ _ _ hs _ _ _ op _ (HT.out _ HS.out.bel) hIR (own_ints HS.out.opn) hn hlt hv1 HOI.out hv2).mono ?_); clear hIR hv1 hv2)
            rintro e w1 ⟨z, rfl, hz, hb1⟩
            rw [Hig.out, ← Hceq.out, hck] at hz
            replace hz : decide (0 < z) = false := hz
            replace HS := Lib.hid (HS.out.keep hb1)
            clear hb1
            obtain ⟨v1, v2, v3⟩ := HS.out.at_ k hil
            rw [show hs[k] = y from Hgy.out] at v2
            go_wp2_with fail
            have HGI := Lib.hid (gifts_in hlt Hin.out.1 hck)
            have HGL := Lib.hid (gifts_low (i := (k : Int)) (checks_parts hck).1 (checks_parts hck).2.2.2.1)
            have HEA : (insAt l k).op = 9 → (insAt l k).arg ≤ 1000000 ∧ 0 ≤ (insAt l k).arg := fun e => by
              have h5 := each_parts (checks_parts hck).2.2.2.2.1 e
              omega
            ((with_reducible refine (gifts_any _ _ _ l k y _ (HT.out _ HS.out.bel) (by omega) hlt (by omega) (by omega) HEA).mono ?_); clear HEA)
            rintro e w2 ⟨g2, rfl, hg2, hblk, hb2⟩
            replace HS := Lib.hid (HS.out.keep hb2)
            replace hblk := Lib.hid hblk
            have Hck := Lib.hid hck
            clear hb2 hg2 v1 v2 v3 hz hck
            have HGE : Hid (∀ hs' m', giveF hs (giftsF (insAt l k) k y) = some hs' → mostF m (giftsF (insAt l k) k y) = some m' → stepP l vars k hs (trOf l hs op) m = (some (hs', trNext (insAt l k) k y (trOf l hs op), m'), 0)) := by
              intro hs' m' e1 e2
              unfold stepP
              rw [Hig.out, if_neg (by rw [Hck.out]; simp)]
              simp only [giveR, e1, e2]
            have HGN : Hid (giveF hs (giftsF (insAt l k) k y) = none → verifyF l vars = (0, (k : Int), 7)) := by
              intro e1
              rw [← HG.out]; simp only [verGo, stepP]
              rw [Hig.out, if_neg (by rw [Hck.out]; simp)]
              simp only [giveR, e1]
            have HGM : Hid (∀ hs', giveF hs (giftsF (insAt l k) k y) = some hs' → mostF m (giftsF (insAt l k) k y) = none → verifyF l vars = (0, (k : Int), 3)) := by
              intro hs' e1 e2
              rw [← HG.out]; simp only [verGo, stepP]
              rw [Hig.out, if_neg (by rw [Hck.out]; simp)]
              simp only [giveR, e1, e2]
            have hgs := gifts_len (insAt l k) k y
            obtain ⟨gs, hgseq⟩ : ∃ gs, giftsF (insAt l k) k y = gs := ⟨_, rfl⟩
            rw [hgseq] at HGI HGL hblk HGE HGN HGM hgs ⊢
            have Hgs := Lib.hid hgseq; clear hgseq
            have Hhl := Lib.hid HI.out.1
            go_wp2_with fail
            go_loopg [13] gs.length (fun gg jv wi => ∃ (j : Nat) (hj : List Int), j + gg = gs.length ∧ jv = .int .i64 j ∧ Hid (giveF hj (gs.drop j) = giveF hs gs) ∧ Hid (hj.length = hs.length) ∧ Hid (RVSt w wi g hc hj O oc op) ∧ Hid (Blk wi g2 (gs.flatMap termCells).toArray 84))
            case atStart => exact ⟨0, hs, by omega, rfl, rfl, rfl, HS, hblk⟩
            case round =>
              clear HS hblk
              obtain ⟨j, hj, hjg, rfl, HK, HL, HS, hblk⟩ := hrel
              by_cases hjl : j < gs.length
              · obtain ⟨hp0, hp1⟩ := HGI.out gs[j] (List.getElem_mem _)
                obtain ⟨p, hp⟩ := Int.eq_ofNat_of_zero_le hp0
                have hpl : p < hj.length := by rw [HL.out, Hhl.out]; omega
                have hpl2 : p < l.length + 1 := by omega
                obtain ⟨b', o', e1, hbl, k1, k2⟩ := TermsR.at_ (terms_of_block hblk.out) j hjl
                obtain ⟨rfl, rfl⟩ : g2 = b' ∧ 0 = o' := by simpa using e1
                rw [Nat.zero_add] at k1 k2
                rw [hp] at k1
                obtain ⟨v1, v2, v3⟩ := HS.out.at_ p hpl
                have HP := Lib.hid hp
                have hne2 : g2 ≠ g := by
                  intro e
                  exact hblk.out.apart HS.out.hts (by decide) (by rw [e]; rfl)
                have HKs : Hid (giveF hj (gs.drop j) = if 0 ≤ hj[p] ∧ hj[p] ≠ gs[j].arg then none else giveF (hj.set p gs[j].arg) (gs.drop (j + 1))) := by
                  show giveF hj (gs.drop j) = _
                  rw [List.drop_eq_getElem_cons hjl]
                  simp only [giveF]
                  rw [hp, ig_get hpl, Int.toNat_natCast]
                have HSS := fun x => Lib.hid (HS.out.set p x)
                have HBS := fun x => Lib.hid (hblk.out.other (a := ⟨g, p, none⟩) hne2 (.int .i64 x))
                have HSS' := Lib.hid HSS; have HBS' := Lib.hid HBS
                clear e1 hp hp0 hp1 HSS HBS
                generalize hj[p] = x at *
                generalize gs[j].arg = yy at *
                have hfin : ∀ (u : Nat), ¬ (0 ≤ x ∧ x ≠ yy) → ∃ (j' : Nat) (hj' : List Int), j' + (gk - 1) = gs.length ∧ Value.int .i64 ((j : Int) + 1) = .int .i64 j' ∧ Hid (giveF hj' (gs.drop j') = giveF hs gs) ∧ Hid (hj'.length = hs.length) ∧ Hid (RVSt w ((wr.drewN u).setCell ⟨g, p, none⟩ (.int .i64 yy)) g hc hj' O oc op) ∧ Hid (Blk ((wr.drewN u).setCell ⟨g, p, none⟩ (.int .i64 yy)) g2 (gs.flatMap termCells).toArray 84) := by
                  intro u hcond
                  refine ⟨j + 1, hj.set p yy, by omega, by go_num, ?_, ?_, ?_, ?_⟩
                  · show giveF (hj.set p yy) (gs.drop (j + 1)) = giveF hs gs
                    rw [← HK.out, HKs.out, if_neg hcond]
                  · show (hj.set p yy).length = hs.length; rw [List.length_set]; exact HL.out
                  · exact (HS.out.keep ((Bel.refl wr).drewN u)).set p yy
                  · exact (hblk.out.drewN u).other (a := ⟨g, p, none⟩) hne2 _
                have HFin := Lib.hid hfin; clear hfin
                by_cases hx0 : 0 ≤ x
                · have hx0b : decide (0 ≤ x) = true := by simpa using hx0
                  by_cases hxy : x = yy
                  · have HCd := Lib.hid (show ¬ (0 ≤ x ∧ x ≠ yy) from fun h => h.2 hxy)
                    have hxb : (x != yy) = false := by simpa using hxy
                    clear hxy
                    go_wp2_with fail
                    go_quiet (fail)
                    go_wp2_with fail
                    go_region
                    all_goals
                      go_wp2_with fail
                      go_roundg (gk - 1)
                      case rel => exact HFin.out _ HCd.out
                      case measure => omega
                  · have hxb : (x != yy) = true := by simpa using hxy
                    have HE := HGN.out (by rw [← HK.out, HKs.out, if_pos ⟨hx0, hxy⟩])
                    replace HE := Lib.hid HE
                    go_wp2_with fail
                    go_quiet (fail)
                    go_wp2_with fail
                    go_ret3
                    exact ⟨by rw [HE.out]; rfl, HS.out.bel.drewN _⟩
                · have hx0b : decide (0 ≤ x) = false := by simpa using hx0
                  have HCd := Lib.hid (show ¬ (0 ≤ x ∧ x ≠ yy) from fun h => hx0 h.1)
                  go_wp2_with fail
                  go_quiet (fail)
                  go_wp2_with fail
                  go_region
                  all_goals
                    go_wp2_with fail
                    go_roundg (gk - 1)
                    case rel => exact HFin.out _ HCd.out
                    case measure => omega
              · have HF1 : Hid (giveF hs gs = some hj) := by
                  show giveF hs gs = some hj
                  rw [← HK.out, List.drop_eq_nil_of_le (by omega)]; rfl
                obtain ⟨wq2, hwq2⟩ : ∃ wq2 : World, wq2 = wr := ⟨_, rfl⟩
                subst hwq2
                clear HK
                go_wp2_with fail
                clear hjl hjg
                go_loopg [10, 14] gs.length (fun gg mv jv wi => ∃ (j : Nat) (mk : Int), j + gg = gs.length ∧ jv = .int .i64 j ∧ mv = .int .i64 mk ∧ Hid (mostF mk (gs.drop j) = mostF m gs) ∧ wq2 = wi)
                case atStart => exact ⟨0, m, by omega, rfl, rfl, rfl, rfl⟩
                case round =>
                  obtain ⟨j2, mk, hjg, rfl, rfl, HK, rfl⟩ := hrel
                  by_cases hjl : j2 < gs.length
                  · obtain ⟨b', o', e1, hbl, k1, k2⟩ := TermsR.at_ (terms_of_block hblk.out) j2 hjl
                    obtain ⟨rfl, rfl⟩ : g2 = b' ∧ 0 = o' := by simpa using e1
                    rw [Nat.zero_add] at k1 k2
                    have HKs : Hid (mostF mk (gs.drop j2) = if 64 < gs[j2].arg then none else mostF (max mk gs[j2].arg) (gs.drop (j2 + 1))) := by
                      show mostF mk (gs.drop j2) = _
                      rw [List.drop_eq_getElem_cons hjl]; rfl
                    clear e1
                    generalize gs[j2].arg = yy at *
                    by_cases h64 : 64 < yy
                    · have h64b : decide (64 < yy) = true := by simpa using h64
                      have HE := Lib.hid (HGM.out _ HF1.out (by rw [← HK.out, HKs.out, if_pos h64]))
                      go_wp2_with fail
                      go_ret3
                      exact ⟨by rw [HE.out]; rfl, HS.out.bel⟩
                    · have h64b : decide (64 < yy) = false := by simpa using h64
                      have HKn : Hid (mostF (max mk yy) (gs.drop (j2 + 1)) = mostF m gs) := by
                        show mostF (max mk yy) (gs.drop (j2 + 1)) = mostF m gs
                        rw [← HK.out, HKs.out, if_neg h64]
                      go_wp2_with fail
                      all_goals
                        go_roundg (gk - 1)
                        case rel => first
                          | exact ⟨j2 + 1, yy, by omega, by go_num, rfl, by have := HKn.out; rw [Int.max_eq_right (by omega)] at this; exact this, rfl⟩
                          | exact ⟨j2 + 1, mk, by omega, by go_num, rfl, by have := HKn.out; rw [Int.max_eq_left (by omega)] at this; exact this, rfl⟩
                        case measure => omega
                  · have HF2 : Hid (mostF m gs = some mk) := by
                      show mostF m gs = some mk
                      rw [← HK.out, List.drop_eq_nil_of_le (by omega)]; rfl
                    have HST := HGE.out _ _ HF1.out HF2.out
                    have HST0 := Lib.hid HST
                    obtain ⟨ht1, ht2⟩ := step_open HI.out.1 hlt HOI.out HST
                    have HI2 := stepP_inv hlt HI.out HST
                    rw [ht1] at HI2
                    have HG2 : verGo l vars q (k + 1) hj (trOf l hj (opNext (insAt l k) k op)) mk = verifyF l vars := by
                      rw [← HG.out, ← ht1]; simp only [verGo, HST]
                    replace HI2 := Lib.hid HI2; replace HG2 := Lib.hid HG2; replace ht2 := Lib.hid ht2
                    clear HST ht1 HK
                    obtain ⟨b', o', rfl, hbl, k1, k2⟩ := (HT.out _ HS.out.bel).at_ k hlt
                    have hxl := insAt_get hlt
                    rw [← hxl] at k1
                    generalize hxx : insAt l k = x at *
                    have Hxx := Lib.hid hxx; have Hxl := Lib.hid hxl
                    clear hxx hxl k2
                    have hbs := HS.out.bel.size
                    have hopl := HOI.out.1
                    by_cases h9 : x.op = 9
                    · have h9b : (x.op == 9) = true := by simpa using h9
                      have h10b : (x.op == 10) = false := by simp [h9]
                      have HON : Hid (opNext x k op = op ++ [(k : Int)]) := by show opNext x k op = _; simp [opNext, h9]
                      clear h9
                      go_wp2_with (at_builtin; refine wpList_push _ rfl (.tmp 124) (.tmp 126) 27 rfl w.heap.size 3 i0 (.int .i64 0) 1 8 Tryz.underlying27 hi0 hz0 hz1 hz2 rfl (by decide) O op.length oc (op.map (Value.int .i64)) (by simp [Act.eval]) (HS.out.opn.alloc _) wq2.heap.size #[.int .i64 k] 3 (0, 0) (by simp [Act.eval]) (heap_new _ _) rfl (one_int _ _) (by unfold maxLen; omega) (by omega) (by simp; omega) ?_; intro O' oc' w5 hown5 hgr5 hat5; have hS5 := Lib.hid ((HS.out.keep ((Bel.refl wq2).alloc _)).push hown5 hgr5 (by simpa using hat5)); obtain ⟨b5, o5, e5, hbl5, k5, _⟩ := (HT.out _ hS5.out.bel).at_ k hlt; obtain ⟨rfl, rfl⟩ : b' = b5 ∧ o' = o5 := (by simpa using e5); rw [← Hxl.out] at k5; clear hown5 hgr5 hat5 e5)
                      go_roundg q
                      case rel => exact ⟨k + 1, O', oc', op ++ [(k : Int)], hj, mk, by omega, by go_num, by simp, rfl, by have := HI2.out; rw [HON.out] at this; exact this, by have := ht2.out; rw [HON.out] at this; exact this, by have := HG2.out; rw [HON.out] at this; exact this, hS5⟩
                      case measure => omega
                    · have h9b : (x.op == 9) = false := by simpa using h9
                      by_cases h10 : x.op = 10
                      · have h10b : (x.op == 10) = true := by simpa using h10
                        have HON : Hid (opNext x k op = op.dropLast) := by show opNext x k op = _; simp [opNext, h10]
                        have hnx := (checks_parts Hck.out).2.2.2.2.2.1
                        have hpos : 1 ≤ op.length := by
                          unfold nextF at hnx
                          rw [show decide (x.op ≠ 10) = false by simp [h10]] at hnx
                          simp only [Bool.false_or, Bool.and_eq_true, decide_eq_true_eq] at hnx
                          cases op with
                          | nil => simp [trOf, innerF] at hnx; omega
                          | cons => simp
                        obtain ⟨m', hm'⟩ : ∃ m', op.length = m' + 1 := ⟨op.length - 1, by omega⟩
                        have hcap := (own_cap HS.out.opn).1
                        have hu := run_upto (P := Tryz.prog) Tryz.underlying27 hi0 O (m' + 1) oc m' (by omega)
                        have HP := Lib.hid HS.out.pop
                        have Hm := Lib.hid hm'
                        have hdl : Hid (op.dropLast.length = m') := by show op.dropLast.length = m'; rw [List.length_dropLast]; omega
                        rw [hm'] at hopl ⊢
                        clear h9 h10 hnx hpos hcap hm'
                        go_wp2_with fail
                        go_roundg q
                        case rel => exact ⟨k + 1, O, oc, op.dropLast, hj, mk, by omega, by go_num, by rw [hdl.out], rfl, by have := HI2.out; rw [HON.out] at this; exact this, by have := ht2.out; rw [HON.out] at this; exact this, by have := HG2.out; rw [HON.out] at this; exact this, HP⟩
                        case measure => omega
                      · have h10b : (x.op == 10) = false := by simpa using h10
                        have HON : Hid (opNext x k op = op) := by show opNext x k op = _; simp [opNext, h9, h10]
                        clear h9 h10
                        go_wp2_with fail
                        go_roundg q
                        case rel => exact ⟨k + 1, O, oc, op, hj, mk, by omega, by go_num, rfl, rfl, by have := HI2.out; rw [HON.out] at this; exact this, by have := ht2.out; rw [HON.out] at this; exact this, by have := HG2.out; rw [HON.out] at this; exact this, HS⟩
                        case measure => omega
        · obtain rfl : gk = 0 := by omega
          obtain rfl : k = l.length := by omega
          have hil : l.length < hs.length := by rw [HI.out.1]; omega
          have hhl := Lib.hid HI.out.1
          obtain ⟨v1, v2, v3⟩ := HS.out.at_ l.length hil
          have hig := ig_get hil
          have HR : Hid (verifyF l vars = if hs[l.length] ≠ 1 then (0, (l.length : Int), 7) else (m, 0, 0)) := by
            show verifyF l vars = _
            rw [← HG.out]; simp only [verGo]; rw [hig]
          generalize hs[l.length] = y at *
          have HV2 := Lib.hid HS.out.bel
          clear hig
          by_cases h1 : y = 1
          · have h1b : (y != 1) = false := by simpa using h1
            go_wp2_with fail
            go_ret3
            exact ⟨by rw [HR.out, if_neg (by simpa using h1)]; rfl, HV2.out⟩
          · have h1b : (y != 1) = true := by simpa using h1
            go_wp2_with fail
            go_ret3
            exact ⟨by rw [HR.out, if_pos h1]; rfl, HV2.out⟩

end Go.Proofs.YtaifafljakojnaaGreat

