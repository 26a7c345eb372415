/- Merged of: P12z P12o P13f P13g (see NOTES.md). -/
import Derived.Test.YtaifafljakojnaaGreatZ17
import Derived.Test.YtaifafljakojnaaGreatZ18
set_option linter.unusedSimpArgs false
set_option linter.unnecessarySimpa false
set_option linter.unusedVariables false

/- Verify runs through the code of a part of an expression. -/
namespace Go.Proofs.YtaifafljakojnaaGreat

theorem Hts.set {hs hs1 : List Int} {f p e : Nat} {u v : Int} (h : Hts hs hs1 f p u) (hf : f ≤ p) (hp : p < e) (he : e < hs1.length) : Hts hs (hs1.set e v) f e v := by
  refine ⟨by rw [List.length_set, h.len], fun j hj => ?_, fun j hj => ?_, ?_⟩
  · rw [ig_set he, if_neg (by omega)]; exact h.low j hj
  · rw [ig_set he, if_neg (by omega)]; exact h.high j (by omega)
  · rw [ig_set he, if_pos rfl]
theorem Hts.trans {hs hs1 hs2 : List Int} {f p q : Nat} {u v : Int} (h : Hts hs hs1 f p u) (h2 : Hts hs1 hs2 p q v) (hf : f ≤ p) (hp : p ≤ q) : Hts hs hs2 f q v :=
  ⟨h2.len.trans h.len, fun j hj => (h2.low j (by omega)).trans (h.low j hj), fun j hj => (h2.high j hj).trans (h.high j (by omega)), h2.at_⟩

def RunOk (l : List Term) (v : Int) (y : Ex) : Prop :=
  ∀ (f : Nat) (hs : List Int) (tr : List Tr) (most h : Int) (r : List Term), y.ok → (∀ t ∈ y.terms, argF t v = true) → y.inside (!tr.isEmpty) → (tr.length : Int) + y.nest ≤ 2 → h + y.depth ≤ 64 → l.drop f = y.code f ++ r → Pre l hs tr f (f + y.size) h →
    ∃ hs' most', (∀ q, verGo l v (q + y.size) f hs tr most = verGo l v q (f + y.size) hs' tr most') ∧ Hts hs hs' f (f + y.size) (h + 1) ∧ max most (h + 1) ≤ most' ∧ most' ≤ max most (h + y.depth)

theorem run_leaf {l : List Term} {v : Int} (t : Term) : RunOk l v (.leaf t) := by
  intro f hs tr most h r hok harg hin hnest hdep hd hp
  have ha : arity t.op = 0 := hok
  obtain ⟨k1, k2, k3⟩ := leaf_known ha (harg t (by simp [Ex.terms]))
  obtain ⟨hx, _, hlt⟩ := ins_of_drop (x := leafI t) (r := r) hd
  simp only [Ex.depth] at hdep
  have hg := gifts_leaf (i := (f : Int)) (h := h) k2
  have he : (f : Int) + 1 = ((f + 1 : Nat) : Int) := by omega
  rw [he] at hg
  have hc : checksF l v tr f (leafI t) h = true := by
    refine checks_mk hp.h0 k1 ?_ ?_ (each_skip (by omega)) (next_skip (by omega)) (jump_skip (by omega) (by omega))
    · cases hn : needsF (leafI t) with
      | false => rfl
      | true =>
        have := hin (k3 hn)
        rw [Bool.true_and]; simpa using this
    · unfold wantsF; rw [if_neg (by omega), if_neg (by omega)]; exact hp.h0
  have hst := stepGo (m := most) hx hp.now hc (by rw [hg]; exact give_one hp.goal) (by rw [hg]; exact most_one (by omega))
  rw [trNext_same (by omega) (by omega)] at hst
  refine ⟨hs.set (f + 1) (h + 1), max most (h + 1), hst, ?_, by omega, by simp only [Ex.depth]; omega⟩
  have hlen : f + 1 < hs.length := by have := hp.len; have := hp.el; simp only [Ex.size] at this; omega
  refine ⟨List.length_set, fun j hj => ?_, fun j hj => ?_, ?_⟩
  · rw [ig_set hlen, if_neg (by omega)]
  · simp only [Ex.size] at hj; rw [ig_set hlen, if_neg (by omega)]
  · simp only [Ex.size]; rw [ig_set hlen, if_pos rfl]

theorem run_un {l : List Term} {v : Int} (hl : l.length ≤ 1024) (t : Term) (a : Ex) (ih : RunOk l v a) : RunOk l v (.un t a) := by
  intro f hs tr most h r hok harg hin hnest hdep hd hp
  obtain ⟨ha, hoka⟩ := hok
  have harga : ∀ t ∈ a.terms, argF t v = true := fun u hu => harg u (by simp [Ex.terms, hu])
  have hpos := a.size_pos
  have hdp := a.depth_pos
  simp only [Ex.depth] at hdep
  have hop : 18 ≤ t.op ∧ t.op ≤ 29 := by unfold arity at ha; repeat' split at ha <;> omega
  have hinb := hp.inn
  have heln := hp.el
  have hlen := hp.len
  cases hag : aggregate t.op with
  | false =>
    have hop2 : t.op = 18 ∨ t.op = 19 := by unfold aggregate at hag; simp at hag; omega
    have hsz : (Ex.un t a).size = a.size + 1 := by simp [Ex.size, hag]
    have hcd : (Ex.un t a).code f = a.code f ++ [⟨5, t.op⟩] := by simp [Ex.code, hag]
    rw [hsz] at hp heln hinb ⊢
    rw [hcd, List.append_assoc] at hd
    have hin' : a.inside (!tr.isEmpty) := by simpa [Ex.inside, hag] using hin
    have hne' : (tr.length : Int) + a.nest ≤ 2 := by simpa [Ex.nest, hag] using hnest
    obtain ⟨hs1, m1, g1, g2, g3, g4⟩ := ih f hs tr most h _ hoka harga hin' hne' (by omega) hd ⟨hlen, by omega, by omega, hp.now, hp.h0, fun j h1 h2 => hp.free j h1 (by omega), .inl (hp.free _ (by omega) (by omega)), by omega⟩
    have hd2 := drop_of_drop hd (a.code_length f)
    obtain ⟨hx, _, _⟩ := ins_of_drop (x := ⟨5, t.op⟩) (r := r) hd2
    have hc : checksF l v tr ((f + a.size : Nat) : Int) ⟨5, t.op⟩ (h + 1) = true := by
      refine checks_mk (by have := hp.h0; omega) (known_mk (lo := 18) (hi := 19) 5 rfl (by omega) (by omega) (by simp) rfl rfl (by omega) (by omega)) (by simp [needsF]) ?_ (each_skip (by simp)) (next_skip (by simp)) (jump_skip (by simp) (by simp))
      have := hp.h0
      simp [wantsF]; omega
    have hg : giftsF ⟨5, t.op⟩ ((f + a.size : Nat) : Int) (h + 1) = [⟨((f + a.size + 1 : Nat) : Int), h + 1⟩] := by simp [giftsF]
    have hgl : ig hs1 ((f + (a.size + 1) : Nat) : Int) = -1 ∨ ig hs1 ((f + (a.size + 1) : Nat) : Int) = h + 1 := by rw [g2.high _ (by omega)]; exact hp.goal
    have hst := stepGo (m := m1) hx g2.at_ hc (by rw [hg]; exact give_one hgl) (by rw [hg]; exact most_one (by omega))
    rw [trNext_same (by simp) (by simp)] at hst
    refine ⟨hs1.set (f + a.size + 1) (h + 1), max m1 (h + 1), fun q => ?_, g2.set (by omega) (by omega) (by rw [g2.len]; omega), by omega, by simp only [Ex.depth]; omega⟩
    rw [show q + (a.size + 1) = (q + 1) + a.size by omega, g1, hst]; rfl
  | true =>
    have hop2 : 20 ≤ t.op := by unfold aggregate at hag; simp at hag; omega
    have hsz : (Ex.un t a).size = a.size + 2 := by simp [Ex.size, hag]
    have hcd : (Ex.un t a).code f = ⟨9, ((f + 1 + a.size : Nat) : Int)⟩ :: (a.code (f + 1) ++ [⟨10, t.op⟩]) := by simp [Ex.code, hag]
    rw [hsz] at hp heln hinb ⊢
    rw [hcd, List.cons_append, List.append_assoc] at hd
    obtain ⟨hx, hd1, hfl⟩ := ins_of_drop hd
    have hd2 := drop_of_drop hd1 (a.code_length (f + 1))
    obtain ⟨hx2, _, hal⟩ := ins_of_drop (x := ⟨10, t.op⟩) (r := r) hd2
    have hin' : a.inside true := by simpa [Ex.inside, hag] using hin
    have hne' : (tr.length : Int) + (a.nest + 1) ≤ 2 := by simpa [Ex.nest, hag] using hnest
    have hnp := a.nest_pos
    have h0 := hp.h0
    have hc : checksF l v tr (f : Int) ⟨9, ((f + 1 + a.size : Nat) : Int)⟩ h = true := by
      refine checks_mk h0 (known_mk (lo := 0) (hi := 1024) 9 rfl (by omega) (by omega) (by simp) rfl rfl (by omega) (by omega)) (by simp [needsF]) (by simp [wantsF]; exact h0) ?_ (next_skip (by simp)) (jump_skip (by simp) (by simp))
      unfold eachF
      rw [hx2]
      simp
      omega
    have hg : giftsF ⟨9, ((f + 1 + a.size : Nat) : Int)⟩ (f : Int) h = [⟨((f + 1 : Nat) : Int), h⟩, ⟨((f + (a.size + 2) : Nat) : Int), h + 1⟩] := by
      simp [giftsF]; omega
    have hf1 : f + 1 < hs.length := by omega
    have hfe : f + (a.size + 2) < hs.length := by omega
    have hst := stepGo (m := most) hx hp.now hc (by rw [hg]; exact give_two hf1 (by omega) (.inl (hp.free _ (by omega) (by omega))) hp.goal) (by rw [hg]; exact most_two (by omega) (by omega))
    rw [show trNext ⟨9, ((f + 1 + a.size : Nat) : Int)⟩ (f : Int) h tr = tr ++ [((f : Int), ((f + 1 + a.size : Nat) : Int), h)] by simp [trNext]] at hst
    have hig : ∀ j : Nat, ig ((hs.set (f + 1) h).set (f + (a.size + 2)) (h + 1)) (j : Int) = if j = f + (a.size + 2) then h + 1 else if j = f + 1 then h else ig hs (j : Int) := by
      intro j
      rw [ig_set (by rw [List.length_set]; exact hfe), ig_set hf1]
    have hinn : innerF (tr ++ [((f : Int), ((f + 1 + a.size : Nat) : Int), h)]) l.length = ((f : Int), ((f + 1 + a.size : Nat) : Int), h) := by simp [innerF]
    obtain ⟨hs1, m1, g1, g2, g3, g4⟩ := ih (f + 1) ((hs.set (f + 1) h).set (f + (a.size + 2)) (h + 1)) (tr ++ [((f : Int), ((f + 1 + a.size : Nat) : Int), h)]) (max (max most h) (h + 1)) h _ hoka harga (by rw [show (!(tr ++ [((f : Int), ((f + 1 + a.size : Nat) : Int), h)]).isEmpty) = true by simp]; exact hin') (by simp; omega) (by omega) hd1
      ⟨by simp; omega, by omega, by omega, by rw [hig, if_neg (by omega), if_pos rfl], h0, fun j h1 h2 => by rw [hig, if_neg (by omega), if_neg (by omega)]; exact hp.free j (by omega) (by omega), .inl (by rw [hig, if_neg (by omega), if_neg (by omega)]; exact hp.free _ (by omega) (by omega)), by rw [hinn]; simp⟩
    have hc2 : checksF l v (tr ++ [((f : Int), ((f + 1 + a.size : Nat) : Int), h)]) ((f + 1 + a.size : Nat) : Int) ⟨10, t.op⟩ (h + 1) = true := by
      refine checks_mk (by omega) (known_mk (lo := 20) (hi := 29) 10 rfl (by omega) (by omega) (by simp) rfl rfl (by omega) (by omega)) (by simp [needsF]) (by simp [wantsF]; omega) (each_skip (by simp)) ?_ (jump_skip (by simp) (by simp))
      unfold nextF
      rw [hinn]
      simp
    have hg2 : giftsF ⟨10, t.op⟩ ((f + 1 + a.size : Nat) : Int) (h + 1) = [⟨((f + 1 + a.size + 1 : Nat) : Int), h + 1⟩] := by simp [giftsF]
    have hgl : ig hs1 ((f + 1 + a.size + 1 : Nat) : Int) = -1 ∨ ig hs1 ((f + 1 + a.size + 1 : Nat) : Int) = h + 1 := by
      rw [g2.high _ (by omega), hig, if_pos (by omega)]; exact .inr rfl
    have hst2 := stepGo (m := m1) hx2 g2.at_ hc2 (by rw [hg2]; exact give_one hgl) (by rw [hg2]; exact most_one (by omega))
    rw [show trNext ⟨10, t.op⟩ ((f + 1 + a.size : Nat) : Int) (h + 1) (tr ++ [((f : Int), ((f + 1 + a.size : Nat) : Int), h)]) = tr by simp [trNext]] at hst2
    have hlen1 : hs1.length = hs.length := by rw [g2.len]; simp
    refine ⟨hs1.set (f + 1 + a.size + 1) (h + 1), max m1 (h + 1), fun q => ?_, ⟨by rw [List.length_set, hlen1], fun j hj => ?_, fun j hj => ?_, ?_⟩, by omega, by simp only [Ex.depth]; omega⟩
    · rw [show q + (a.size + 2) = (q + 1 + a.size) + 1 by omega, hst, g1, hst2, show f + 1 + a.size + 1 = f + (a.size + 2) by omega]
    · rw [ig_set (by omega), if_neg (by omega), g2.low j (by omega), hig, if_neg (by omega), if_neg (by omega)]
    · rw [ig_set (by omega), if_neg (by omega), g2.high j (by omega), hig, if_neg (by omega), if_neg (by omega)]
    · rw [show f + (a.size + 2) = f + 1 + a.size + 1 by omega, ig_set (by omega), if_pos rfl]

theorem run_bin {l : List Term} {v : Int} (t : Term) (a b : Ex) (iha : RunOk l v a) (ihb : RunOk l v b) : RunOk l v (.bin t a b) := by
  intro f hs tr most h r hok harg hin hnest hdep hd hp
  obtain ⟨ha, hoka, hokb⟩ := hok
  have harga : ∀ t ∈ a.terms, argF t v = true := fun u hu => harg u (by simp [Ex.terms, hu])
  have hargb : ∀ t ∈ b.terms, argF t v = true := fun u hu => harg u (by simp [Ex.terms, hu])
  have hpa := a.size_pos
  have hpb := b.size_pos
  have hda := a.depth_pos
  have hdb := b.depth_pos
  simp only [Ex.depth] at hdep
  simp only [Ex.nest] at hnest
  obtain ⟨hia, hib⟩ := hin
  have hop : 30 ≤ t.op ∧ t.op ≤ 42 := by unfold arity at ha; repeat' split at ha <;> omega
  have hsz : (Ex.bin t a b).size = a.size + b.size + 1 := rfl
  have hcd : (Ex.bin t a b).code f = a.code f ++ b.code (f + a.size) ++ [⟨6, t.op⟩] := rfl
  rw [hsz] at hp ⊢
  rw [hcd, List.append_assoc, List.append_assoc] at hd
  have hinb := hp.inn
  have heln := hp.el
  have hlen := hp.len
  have h0 := hp.h0
  obtain ⟨hs1, m1, g1, g2, g3, g4⟩ := iha f hs tr most h _ hoka harga hia (by omega) (by omega) hd ⟨hlen, by omega, by omega, hp.now, h0, fun j h1 h2 => hp.free j h1 (by omega), .inl (hp.free _ (by omega) (by omega)), by omega⟩
  have hd2 := drop_of_drop hd (a.code_length f)
  obtain ⟨hs2, m2, k1, k2, k3, k4⟩ := ihb (f + a.size) hs1 tr m1 (h + 1) _ hokb hargb hib (by omega) (by omega) hd2 ⟨by rw [g2.len]; exact hlen, by omega, by omega, g2.at_, by omega, fun j h1 h2 => by rw [g2.high j h1]; exact hp.free j (by omega) (by omega), .inl (by rw [g2.high _ (by omega)]; exact hp.free _ (by omega) (by omega)), by omega⟩
  have hd3 := drop_of_drop hd2 (b.code_length (f + a.size))
  obtain ⟨hx, _, _⟩ := ins_of_drop (x := ⟨6, t.op⟩) (r := r) hd3
  have hc : checksF l v tr ((f + a.size + b.size : Nat) : Int) ⟨6, t.op⟩ (h + 1 + 1) = true := by
    refine checks_mk (by omega) (known_mk (lo := 30) (hi := 42) 6 rfl (by omega) (by omega) (by simp) rfl rfl (by omega) (by omega)) (by simp [needsF]) (by simp [wantsF]; omega) (each_skip (by simp)) (next_skip (by simp)) (jump_skip (by simp) (by simp))
  have hg : giftsF ⟨6, t.op⟩ ((f + a.size + b.size : Nat) : Int) (h + 1 + 1) = [⟨((f + a.size + b.size + 1 : Nat) : Int), h + 1⟩] := by simp [giftsF] <;> omega
  have hgl : ig hs2 ((f + a.size + b.size + 1 : Nat) : Int) = -1 ∨ ig hs2 ((f + a.size + b.size + 1 : Nat) : Int) = h + 1 := by
    rw [k2.high _ (by omega), g2.high _ (by omega)]
    have := hp.goal
    rw [show f + (a.size + b.size + 1) = f + a.size + b.size + 1 by omega] at this
    exact this
  have hst := stepGo (m := m2) hx k2.at_ hc (by rw [hg]; exact give_one hgl) (by rw [hg]; exact most_one (by omega))
  rw [trNext_same (by simp) (by simp)] at hst
  refine ⟨hs2.set (f + a.size + b.size + 1) (h + 1), max m2 (h + 1), fun q => ?_, ?_, by omega, by simp only [Ex.depth]; omega⟩
  · rw [show q + (a.size + b.size + 1) = (q + 1 + b.size) + a.size by omega, g1, k1, hst, show f + (a.size + b.size + 1) = f + a.size + b.size + 1 by omega]
  · rw [show f + (a.size + b.size + 1) = f + a.size + b.size + 1 by omega]
    exact (g2.trans k2 (by omega) (by omega)).set (by omega) (by omega) (by rw [k2.len, g2.len]; omega)

set_option maxHeartbeats 2000000 in
theorem run_tri {l : List Term} {v : Int} (hl : l.length ≤ 1024) (t : Term) (a b c : Ex) (iha : RunOk l v a) (ihb : RunOk l v b) (ihc : RunOk l v c) : RunOk l v (.tri t a b c) := by
  intro f hs tr most h r hok harg hin hnest hdep hd hp
  obtain ⟨ha, hoka, hokb, hokc⟩ := hok
  have harga : ∀ t ∈ a.terms, argF t v = true := fun u hu => harg u (by simp [Ex.terms, hu])
  have hargb : ∀ t ∈ b.terms, argF t v = true := fun u hu => harg u (by simp [Ex.terms, hu])
  have hargc : ∀ t ∈ c.terms, argF t v = true := fun u hu => harg u (by simp [Ex.terms, hu])
  have hpa := a.size_pos
  have hpb := b.size_pos
  have hpc := c.size_pos
  have hdb := b.depth_pos
  have hdc := c.depth_pos
  have hda := a.depth_pos
  simp only [Ex.depth] at hdep
  simp only [Ex.nest] at hnest
  obtain ⟨hia, hib, hic⟩ := hin
  have hsz : (Ex.tri t a b c).size = a.size + b.size + c.size + 2 := rfl
  obtain ⟨p, hpp⟩ : ∃ p, f + a.size = p := ⟨_, rfl⟩
  obtain ⟨q', hqq⟩ : ∃ q', p + 1 + b.size = q' := ⟨_, rfl⟩
  obtain ⟨e, hee⟩ : ∃ e, q' + 1 + c.size = e := ⟨_, rfl⟩
  have hcd : (Ex.tri t a b c).code f = a.code f ++ [⟨7, ((q' + 1 : Nat) : Int)⟩] ++ b.code (p + 1) ++ [⟨8, (e : Int)⟩] ++ c.code (q' + 1) := by
    subst hee; subst hqq; subst hpp; rfl
  have hfe : f + (Ex.tri t a b c).size = e := by rw [hsz]; omega
  rw [hfe] at hp ⊢
  rw [hcd] at hd
  simp only [List.append_assoc, List.cons_append, List.nil_append] at hd
  have hinb := hp.inn
  have heln := hp.el
  have hlen := hp.len
  have h0 := hp.h0
  obtain ⟨hs1, m1, g1, g2, g3, g4⟩ := iha f hs tr most h _ hoka harga hia (by omega) (by omega) hd ⟨hlen, by omega, by omega, hp.now, h0, fun j h1 h2 => hp.free j h1 (by omega), .inl (hp.free _ (by omega) (by omega)), by omega⟩
  rw [hpp] at g1 g2
  have hd2 := drop_of_drop hd (a.code_length f)
  rw [hpp] at hd2
  obtain ⟨hx, hd3, hpl⟩ := ins_of_drop hd2
  have hc : checksF l v tr (p : Int) ⟨7, ((q' + 1 : Nat) : Int)⟩ (h + 1) = true := by
    refine checks_mk (by omega) (known_mk (lo := 0) (hi := 1024) 7 rfl (by omega) (by omega) (by simp) rfl rfl (by omega) (by omega)) (by simp [needsF]) (by simp [wantsF]; omega) (each_skip (by simp)) (next_skip (by simp)) ?_
    have hd3' : l.drop (p + 1) = (b.code (p + 1) ++ [⟨8, (e : Int)⟩]) ++ (c.code (q' + 1) ++ r) := by rw [hd3]; simp
    refine jump_over hd3' (by simp [Ex.code_length]; omega) (by omega) ?_
    intro z hz h9
    rcases List.mem_append.1 hz with e1 | e1
    · have := code_loops b _ z e1 h9; omega
    · simp at e1; subst e1; simp at h9
  have hg : giftsF ⟨7, ((q' + 1 : Nat) : Int)⟩ (p : Int) (h + 1) = [⟨((p + 1 : Nat) : Int), h⟩, ⟨((q' + 1 : Nat) : Int), h⟩] := by simp [giftsF] <;> omega
  have hp1 : p + 1 < hs1.length := by rw [g2.len]; omega
  have hq1 : q' + 1 < hs1.length := by rw [g2.len]; omega
  have hst := stepGo (m := m1) hx g2.at_ hc (by rw [hg]; exact give_two hp1 (by omega) (.inl (by rw [g2.high _ (by omega)]; exact hp.free _ (by omega) (by omega))) (.inl (by rw [g2.high _ (by omega)]; exact hp.free _ (by omega) (by omega)))) (by rw [hg]; exact most_two (by omega) (by omega))
  rw [trNext_same (by simp) (by simp)] at hst
  have hig : ∀ j : Nat, ig ((hs1.set (p + 1) h).set (q' + 1) h) (j : Int) = if j = q' + 1 then h else if j = p + 1 then h else ig hs1 (j : Int) := by
    intro j
    rw [ig_set (by rw [List.length_set]; exact hq1), ig_set hp1]
  obtain ⟨hs2, m2, k1, k2, k3, k4⟩ := ihb (p + 1) ((hs1.set (p + 1) h).set (q' + 1) h) tr (max (max m1 h) h) h _ hokb hargb hib (by omega) (by omega) hd3
    ⟨by simp [g2.len]; exact hlen, by omega, by omega, by rw [hig, if_neg (by omega), if_pos rfl], h0, fun j h1 h2 => by rw [hig, if_neg (by omega), if_neg (by omega), g2.high j (by omega)]; exact hp.free j (by omega) (by omega), .inl (by rw [hig, if_neg (by omega), if_neg (by omega), g2.high _ (by omega)]; exact hp.free _ (by omega) (by omega)), by omega⟩
  rw [hqq] at k1 k2
  have hd4 := drop_of_drop hd3 (b.code_length (p + 1))
  rw [hqq] at hd4
  obtain ⟨hx2, hd5, hql⟩ := ins_of_drop hd4
  have hc2 : checksF l v tr (q' : Int) ⟨8, (e : Int)⟩ (h + 1) = true := by
    refine checks_mk (by omega) (known_mk (lo := 0) (hi := 1024) 8 rfl (by omega) (by omega) (by simp) rfl rfl (by omega) (by omega)) (by simp [needsF]) (by simp [wantsF]; omega) (each_skip (by simp)) (next_skip (by simp)) ?_
    refine jump_over hd5 (by rw [Ex.code_length]; omega) (by omega) ?_
    intro z hz h9
    have := code_loops c _ z hz h9; omega
  have hg2 : giftsF ⟨8, (e : Int)⟩ (q' : Int) (h + 1) = [⟨(e : Int), h + 1⟩] := by simp [giftsF]
  have hlen2 : hs2.length = hs.length := by rw [k2.len]; simp [g2.len]
  have hgl : ig hs2 (e : Int) = -1 ∨ ig hs2 (e : Int) = h + 1 := by
    rw [k2.high _ (by omega), hig, if_neg (by omega), if_neg (by omega), g2.high _ (by omega)]; exact hp.goal
  have hst2 := stepGo (m := m2) hx2 k2.at_ hc2 (by rw [hg2]; exact give_one hgl) (by rw [hg2]; exact most_one (by omega))
  rw [trNext_same (by simp) (by simp)] at hst2
  have hel : e < hs2.length := by omega
  have hig2 : ∀ j : Nat, q' < j → ig (hs2.set e (h + 1)) (j : Int) = if j = e then h + 1 else if j = q' + 1 then h else ig hs (j : Int) := by
    intro j hj
    rw [ig_set hel]
    by_cases h1 : j = e
    · rw [if_pos h1, if_pos h1]
    · rw [if_neg h1, if_neg h1, k2.high j hj, hig, if_neg (show ¬ j = p + 1 by omega), g2.high j (by omega)]
  obtain ⟨hs3, m3, n1, n2, n3, n4⟩ := ihc (q' + 1) (hs2.set e (h + 1)) tr (max m2 (h + 1)) h _ hokc hargc hic (by omega) (by omega) hd5
    ⟨by rw [List.length_set]; omega, by omega, by omega, by rw [hig2 _ (by omega), if_neg (by omega), if_pos rfl], h0, fun j h1 h2 => by rw [hig2 _ (by omega), if_neg (by omega), if_neg (by omega)]; exact hp.free j (by omega) (by omega), .inr (by rw [hee, hig2 _ (by omega), if_pos rfl]), by omega⟩
  rw [hee] at n1 n2
  refine ⟨hs3, m3, fun q => ?_, ⟨by rw [n2.len, List.length_set, hlen2], fun j hj => ?_, fun j hj => ?_, n2.at_⟩, by omega, by simp only [Ex.depth]; omega⟩
  · rw [show q + (Ex.tri t a b c).size = (((q + c.size) + 1 + b.size) + 1) + a.size by rw [hsz]; omega, g1, hst, k1, hst2, n1]
  · rw [n2.low j (by omega), ig_set hel, if_neg (by omega), k2.low j (by omega), hig, if_neg (by omega), if_neg (by omega), g2.low j hj]
  · rw [n2.high j hj, hig2 j (by omega), if_neg (by omega), if_neg (by omega)]

theorem run_code {l : List Term} {v : Int} (hl : l.length ≤ 1024) (y : Ex) : RunOk l v y := by
  induction y with
  | leaf t => exact run_leaf t
  | un t a ih => exact run_un hl t a ih
  | bin t a b iha ihb => exact run_bin t a b iha ihb
  | tri t a b c iha ihb ihc => exact run_tri hl t a b c iha ihb ihc

/-- P12.3 for compiled expressions. -/
theorem verify_code {x : Ex} {v : Int} (hv : 0 ≤ v) (hok : x.ok) (harg : ∀ t ∈ x.terms, argF t v = true) (hin : x.inside false) (hnest : x.nest ≤ 2) (hdep : x.depth ≤ 24) (hsz : x.size ≤ 1024) :
    ∃ h, verifyF (x.code 0) v = (h, 0, 0) ∧ 1 ≤ h ∧ h ≤ x.depth := by
  have hlen : (x.code 0).length = x.size := x.code_length 0
  have hpos := x.size_pos
  have hdp := x.depth_pos
  have hig : ∀ j : Nat, 0 < j → j ≤ x.size → ig (0 :: List.replicate x.size (-1)) (j : Int) = -1 := by
    intro j h1 h2
    obtain ⟨k, rfl⟩ : ∃ k, j = k + 1 := ⟨j - 1, by omega⟩
    unfold ig
    rw [Int.toNat_natCast, List.getD_cons_succ, List.getD_eq_getElem?_getD, List.getElem?_replicate, if_pos (by omega)]
    rfl
  obtain ⟨hs', m, g1, g2, g3, g4⟩ := run_code (v := v) (by rw [hlen]; exact hsz) x 0 (0 :: List.replicate x.size (-1)) [] 0 0 [] hok harg (by simpa using hin) (by simpa using hnest) (by omega) (by simp)
    ⟨by simp [hlen], by omega, by omega, rfl, by omega, fun j h1 h2 => hig j h1 (by omega), .inl (hig _ (by omega) (by omega)), by simp [innerF, hlen]⟩
  refine ⟨m, ?_, by omega, by omega⟩
  unfold verifyF
  rw [if_neg (by rw [hlen]; omega), Int.max_eq_left hv, hlen]
  have := g1 0
  rw [Nat.zero_add] at this
  rw [this]
  have h1 := g2.at_
  simp only [verGo]
  rw [hlen, show (x.size : Int) = ((0 + x.size : Nat) : Int) by omega, h1]
  simp

end Go.Proofs.YtaifafljakojnaaGreat

/- Terms that look at a bound neighbour outside of all aggregates. -/
namespace Go.Proofs.YtaifafljakojnaaGreat

theorem len_of (y : Ex) : (match y with | .leaf _ => 1 | .un _ a => 1 + a.len | .bin _ a b => 1 + a.len + b.len | .tri _ a b c => 1 + a.len + b.len + c.len) = y.len := by
  cases y <;> simp [Ex.len, Ex.terms] <;> omega

theorem At.sub {es : List Term} (y : Ex) : ∀ {k j : Nat}, y.At es k → k ≤ j → j < k + y.len → ∃ z : Ex, z.At es j ∧ j + z.len ≤ k + y.len := by
  induction y with
  | leaf t =>
    intro k j h h1 h2
    have : (Ex.leaf t).len = 1 := rfl
    obtain rfl : j = k := by omega
    exact ⟨_, h, Nat.le_refl _⟩
  | un t a ih =>
    intro k j h h1 h2
    have hl := len_of (.un t a)
    simp only at hl
    rcases Nat.eq_or_lt_of_le h1 with e | e
    · subst e; exact ⟨_, h, Nat.le_refl _⟩
    · obtain ⟨z, hz, hz2⟩ := ih (j := j) (At.un h).2.2 (by omega) (by omega)
      exact ⟨z, hz, by omega⟩
  | bin t a b iha ihb =>
    intro k j h h1 h2
    have hl := len_of (.bin t a b)
    simp only at hl
    obtain ⟨_, _, ha, hb⟩ := At.bin h
    rcases Nat.eq_or_lt_of_le h1 with e | e
    · subst e; exact ⟨_, h, Nat.le_refl _⟩
    · by_cases hj : j < k + 1 + a.len
      · obtain ⟨z, hz, hz2⟩ := iha (j := j) ha (by omega) (by omega)
        exact ⟨z, hz, by omega⟩
      · obtain ⟨z, hz, hz2⟩ := ihb (j := j) hb (by omega) (by omega)
        exact ⟨z, hz, by omega⟩
  | tri t a b c iha ihb ihc =>
    intro k j h h1 h2
    have hl := len_of (.tri t a b c)
    simp only at hl
    obtain ⟨_, _, ha, hb, hc⟩ := At.tri h
    rcases Nat.eq_or_lt_of_le h1 with e | e
    · subst e; exact ⟨_, h, Nat.le_refl _⟩
    · by_cases hj : j < k + 1 + a.len
      · obtain ⟨z, hz, hz2⟩ := iha (j := j) ha (by omega) (by omega)
        exact ⟨z, hz, by omega⟩
      · by_cases hj : j < k + 1 + a.len + b.len
        · obtain ⟨z, hz, hz2⟩ := ihb (j := j) hb (by omega) (by omega)
          exact ⟨z, hz, by omega⟩
        · obtain ⟨z, hz, hz2⟩ := ihc (j := j) hc (by omega) (by omega)
          exact ⟨z, hz, by omega⟩

theorem end_le_at {es : List Term} {y : Ex} {k j : Nat} (h : y.At es k) (h1 : k ≤ j) (h2 : j < k + y.len) : endF es (j : Int) ≤ ((k + y.len : Nat) : Int) := by
  obtain ⟨z, hz, hz2⟩ := At.sub y h h1 h2
  rw [At.endF hz]; omega

/-- The place i is inside of an aggregate from the place k on, or b says that it is. -/
def Cov (es : List Term) (k i : Nat) (b : Bool) : Prop := b = true ∨ ∃ (k' : Nat) (t' : Term), k ≤ k' ∧ k' < i ∧ es[k']? = some t' ∧ aggregate t'.op = true ∧ (i : Int) < endF es (k' : Int)

theorem inside_of {es : List Term} (y : Ex) : ∀ (k : Nat) (b : Bool), y.At es k → (∀ (i : Nat) (t : Term), k ≤ i → i < k + y.len → es[i]? = some t → nearT t = true → Cov es k i b) → y.inside b := by
  induction y with
  | leaf t =>
    intro k b h hc hn
    have : (Ex.leaf t).len = 1 := rfl
    rcases hc k t (Nat.le_refl _) (by omega) (At.leaf h).1 hn with h1 | ⟨k', t', h1, h2, _⟩
    · exact h1
    · omega
  | un t a ih =>
    intro k b h hc
    have hl := len_of (.un t a)
    simp only at hl
    obtain ⟨hk, har, ha⟩ := At.un h
    refine ih (k + 1) _ ha fun i u h1 h2 h3 h4 => ?_
    cases hag : aggregate t.op with
    | true => exact .inl rfl
    | false =>
      rcases hc i u (by omega) (by omega) h3 h4 with h5 | ⟨k', t', h5, h6, h7, h8, h9⟩
      · exact .inl (by rw [h5]; rfl)
      · refine .inr ⟨k', t', ?_, h6, h7, h8, h9⟩
        rcases Nat.eq_or_lt_of_le h5 with e | e
        · subst e
          rw [hk] at h7
          injection h7 with h7
          subst h7
          rw [hag] at h8; cases h8
        · omega
  | bin t a b iha ihb =>
    intro k bb h hc
    have hl := len_of (.bin t a b)
    simp only at hl
    obtain ⟨hk, har, ha, hb⟩ := At.bin h
    have hna := agg_false (op := t.op) (by omega)
    have hk0 : ∀ (k' : Nat) (t' : Term), k ≤ k' → es[k']? = some t' → aggregate t'.op = true → k + 1 ≤ k' := by
      intro k' t' h5 h7 h8
      rcases Nat.eq_or_lt_of_le h5 with e | e
      · subst e
        rw [hk] at h7
        injection h7 with h7
        subst h7
        rw [hna] at h8; cases h8
      · omega
    refine ⟨iha (k + 1) _ ha fun i u h1 h2 h3 h4 => ?_, ihb _ _ hb fun i u h1 h2 h3 h4 => ?_⟩
    · rcases hc i u (by omega) (by omega) h3 h4 with h5 | ⟨k', t', h5, h6, h7, h8, h9⟩
      · exact .inl h5
      · exact .inr ⟨k', t', hk0 k' t' h5 h7 h8, h6, h7, h8, h9⟩
    · rcases hc i u (by omega) (by omega) h3 h4 with h5 | ⟨k', t', h5, h6, h7, h8, h9⟩
      · exact .inl h5
      · refine .inr ⟨k', t', ?_, h6, h7, h8, h9⟩
        have := hk0 k' t' h5 h7 h8
        by_cases hlt : k' < k + 1 + a.len
        · have := end_le_at ha this hlt; omega
        · omega
  | tri t a b c iha ihb ihc =>
    intro k bb h hc
    have hl := len_of (.tri t a b c)
    simp only at hl
    obtain ⟨hk, har, ha, hb, hcc⟩ := At.tri h
    have hna := agg_false (op := t.op) (by omega)
    have hk0 : ∀ (k' : Nat) (t' : Term), k ≤ k' → es[k']? = some t' → aggregate t'.op = true → k + 1 ≤ k' := by
      intro k' t' h5 h7 h8
      rcases Nat.eq_or_lt_of_le h5 with e | e
      · subst e
        rw [hk] at h7
        injection h7 with h7
        subst h7
        rw [hna] at h8; cases h8
      · omega
    refine ⟨iha (k + 1) _ ha fun i u h1 h2 h3 h4 => ?_, ihb _ _ hb fun i u h1 h2 h3 h4 => ?_, ihc _ _ hcc fun i u h1 h2 h3 h4 => ?_⟩
    · rcases hc i u (by omega) (by omega) h3 h4 with h5 | ⟨k', t', h5, h6, h7, h8, h9⟩
      · exact .inl h5
      · exact .inr ⟨k', t', hk0 k' t' h5 h7 h8, h6, h7, h8, h9⟩
    · rcases hc i u (by omega) (by omega) h3 h4 with h5 | ⟨k', t', h5, h6, h7, h8, h9⟩
      · exact .inl h5
      · refine .inr ⟨k', t', ?_, h6, h7, h8, h9⟩
        have := hk0 k' t' h5 h7 h8
        by_cases hlt : k' < k + 1 + a.len
        · have := end_le_at ha this hlt; omega
        · omega
    · rcases hc i u (by omega) (by omega) h3 h4 with h5 | ⟨k', t', h5, h6, h7, h8, h9⟩
      · exact .inl h5
      · refine .inr ⟨k', t', ?_, h6, h7, h8, h9⟩
        have := hk0 k' t' h5 h7 h8
        by_cases hlt : k' < k + 1 + a.len
        · have := end_le_at ha this hlt; omega
        · by_cases hlt2 : k' < k + 1 + a.len + b.len
          · have := end_le_at hb (by omega) hlt2; omega
          · omega

/-- What the statement's own loops compute. -/
def covB (es : List Term) (i k : Nat) : Bool := aggregate (opAt es (k : Int)) && decide ((i : Int) < endF es (k : Int))
def insB (es : List Term) (i n : Nat) : Bool := (List.range n).any fun k => covB es i k
def outB (es : List Term) (n : Nat) : Bool := (List.range n).any fun i => (nearT (es.getD i default)) && !insB es i i
theorem insB_succ (es : List Term) (i n : Nat) : insB es i (n + 1) = (insB es i n || covB es i n) := by unfold insB; rw [List.range_succ, List.any_append]; simp
theorem outB_succ (es : List Term) (n : Nat) : outB es (n + 1) = (outB es n || ((nearT (es.getD n default)) && !insB es n n)) := by unfold outB; rw [List.range_succ, List.any_append]; simp
theorem insB_zero (es : List Term) (i : Nat) : insB es i 0 = false := rfl
theorem outB_zero (es : List Term) : outB es 0 = false := rfl
theorem outB_mono {es : List Term} {k n : Nat} (h : outB es k = true) (hk : k ≤ n) : outB es n = true := by
  unfold outB at *
  rw [List.any_eq_true] at *
  obtain ⟨x, hx, hx2⟩ := h
  exact ⟨x, by simp at hx ⊢; omega, hx2⟩

theorem inside_of_out {es : List Term} {x : Ex} (hok : x.ok) (hx : x.terms = es) (h : outB es es.length = false) : x.inside false := by
  refine inside_of x 0 false (At.whole hok hx) fun i t _ hi ht hn => ?_
  have hil : i < es.length := by rw [← hx]; simpa [Ex.len] using hi
  have hb : insB es i i = true := by
    unfold outB at h
    rw [List.any_eq_false] at h
    have := h i (by simpa using hil)
    rw [List.getD_eq_getElem?_getD, ht] at this
    simp only [Option.getD_some, hn, Bool.true_and, Bool.not_eq_true', Bool.not_eq_false] at this
    exact this
  unfold insB at hb
  rw [List.any_eq_true] at hb
  obtain ⟨k, hk, hc⟩ := hb
  simp at hk
  unfold covB at hc
  rw [Bool.and_eq_true] at hc
  have hkl : k < es.length := by omega
  refine .inr ⟨k, es[k], by omega, hk, List.getElem?_eq_getElem hkl, ?_, by simpa using hc.2⟩
  have := hc.1
  rw [opAt_get hkl] at this
  exact this

/- Code that is moved. -/
def movT (d : Int) (t : Term) : Term := if t.op = 7 ∨ t.op = 8 ∨ t.op = 9 then ⟨t.op, t.arg + d⟩ else t
theorem leafI_op (t : Term) : (leafI t).op = 1 ∨ (leafI t).op = 2 ∨ (leafI t).op = 3 ∨ (leafI t).op = 4 := by
  unfold leafI
  by_cases h1 : t.op = 1
  · rw [if_pos h1]; simp
  by_cases h2 : t.op = 2
  · rw [if_neg h1, if_pos h2]; simp
  by_cases h3 : t.op = 3
  · rw [if_neg h1, if_neg h2, if_pos h3]; simp
  by_cases h4 : t.op = 4
  · rw [if_neg h1, if_neg h2, if_neg h3, if_pos h4]; simp
  by_cases h5 : t.op = 5
  · rw [if_neg h1, if_neg h2, if_neg h3, if_neg h4, if_pos h5]; simp
  by_cases h12 : t.op = 12
  · rw [if_neg h1, if_neg h2, if_neg h3, if_neg h4, if_neg h5, if_pos h12]; simp
  rw [if_neg h1, if_neg h2, if_neg h3, if_neg h4, if_neg h5, if_neg h12]; simp
theorem code_moved (x : Ex) : ∀ (f d : Nat), (x.code f).map (movT d) = x.code (f + d) := by
  induction x with
  | leaf t =>
    intro f d
    have := leafI_op t
    simp only [Ex.code, List.map_cons, List.map_nil, movT]
    rw [if_neg (by omega)]
  | un t a ih =>
    intro f d
    simp only [Ex.code]
    split
    · simp only [List.map_cons, List.map_append, List.map_nil, ih, movT]
      simp
      refine ⟨by omega, by congr 1; omega⟩
    · simp [ih, movT]
  | bin t a b iha ihb =>
    intro f d
    simp only [Ex.code, List.map_append, iha, ihb, List.map_cons, List.map_nil, movT]
    simp
    congr 1; omega
  | tri t a b c iha ihb ihc =>
    intro f d
    simp only [Ex.code, List.map_append, iha, ihb, ihc, List.map_cons, List.map_nil, movT]
    simp
    refine ⟨by omega, ?_⟩
    rw [show f + a.size + 1 + d = f + d + a.size + 1 by omega, show f + a.size + 1 + b.size + 1 + d = f + d + a.size + 1 + b.size + 1 by omega]
    congr 2
    congr 1
    omega

end Go.Proofs.YtaifafljakojnaaGreat

/- Two lists that Verify accepts, one behind the other, and a binary operation. -/
namespace Go.Proofs.YtaifafljakojnaaGreat

theorem ver_end {l : List Term} {v : Int} {H : List Int} {T : Nat → List Tr} (hv : Ver l v H T) : T l.length = [] := by
  rcases nil_or_concat' (T l.length) with e | ⟨D, t, e⟩
  · exact e
  · obtain ⟨e0, nx, b1, b2, b3, b4, b5, _⟩ := ver_nested hv l.length (Nat.le_refl _) D t [] e
    omega
theorem clear_mk {l : List Term} {i a : Nat} (h : ∀ k : Nat, i + 1 ≤ k → k < a → k < l.length → (insAt l k).op = 9 → (insAt l k).arg < (a : Int)) : clearF l i a = true := by
  unfold clearF
  rw [List.all_eq_true]
  intro y hy
  have e1 : ((i : Int) + 1).toNat = i + 1 := by omega
  have e2 : ((a : Int) - ((i : Int) + 1)).toNat = a - (i + 1) := by omega
  rw [e1, e2] at hy
  obtain ⟨k, hk, rfl⟩ := List.getElem_of_mem hy
  rw [List.length_take, List.length_drop] at hk
  rw [List.getElem_take, List.getElem_drop]
  by_cases h9 : (l[i + 1 + k]'(by omega)).op = 9
  · have := h (i + 1 + k) (by omega) (by omega) (by omega) (by rw [insAt_get (by omega)]; exact h9)
    rw [insAt_get (by omega)] at this
    simp [h9]; omega
  · simp [h9]
def shT (d : Int) (t : Tr) : Tr := (t.1 + d, t.2.1 + d, t.2.2 + 1)
def joinL (a b : List Term) (op : Int) : List Term := a ++ b.map (movT a.length) ++ [⟨6, op⟩]
def joinH (a : List Term) (Ha Hb : List Int) : List Int := Ha.take a.length ++ Hb.map (· + 1) ++ [1]
def joinT (a b : List Term) (Ta Tb : Nat → List Tr) (i : Nat) : List Tr := if i < a.length then Ta i else if i ≤ a.length + b.length then (Tb (i - a.length)).map (shT a.length) else []
theorem joinL_length (a b : List Term) (op : Int) : (joinL a b op).length = a.length + b.length + 1 := by simp [joinL]; omega
theorem joinL_a {a b : List Term} {op : Int} {j : Nat} (h : j < a.length) : insAt (joinL a b op) j = insAt a j := by
  rw [insAt_get h, insAt_get (by rw [joinL_length]; omega)]
  unfold joinL
  rw [List.getElem_append_left (by simp; omega), List.getElem_append_left h]
theorem joinL_b {a b : List Term} {op : Int} {j : Nat} (h : j < b.length) : insAt (joinL a b op) (a.length + j : Nat) = movT a.length (insAt b j) := by
  rw [insAt_get h, insAt_get (by rw [joinL_length]; omega)]
  unfold joinL
  rw [List.getElem_append_left (by simp; omega), List.getElem_append_right (by omega)]
  simp
theorem joinL_c {a b : List Term} {op : Int} : insAt (joinL a b op) (a.length + b.length : Nat) = ⟨6, op⟩ := by
  rw [insAt_get (by rw [joinL_length]; omega)]
  unfold joinL
  rw [List.getElem_append_right (by simp)]
  simp
theorem ig_some {H : List Int} {k : Nat} {x : Int} (h : H[k]? = some x) : ig H (k : Int) = x := by
  unfold ig; rw [Int.toNat_natCast, List.getD_eq_getElem?_getD, h]; rfl
theorem ig_at {H : List Int} {k : Nat} (h : k < H.length) : H[k]? = some (ig H (k : Int)) := by
  rw [ig_get h]; exact List.getElem?_eq_getElem h
section
variable {a b : List Term} {v : Int} {Ha Hb : List Int} {Ta Tb : Nat → List Tr}
theorem joinH_b (ha : Ver a v Ha Ta) (hb : Ver b v Hb Tb) {j : Nat} (h : j ≤ b.length) : ig (joinH a Ha Hb) (a.length + j : Nat) = ig Hb j + 1 := by
  have e1 := ha.len
  have e2 := hb.len
  apply ig_some
  unfold joinH
  rw [List.getElem?_append_left (by simp; omega), List.getElem?_append_right (by simp; omega), List.length_take, show a.length + j - min a.length Ha.length = j by omega, List.getElem?_map, ig_at (by omega)]
  rfl
theorem joinH_a (ha : Ver a v Ha Ta) (hb : Ver b v Hb Tb) {j : Nat} (h : j ≤ a.length) : ig (joinH a Ha Hb) j = ig Ha j := by
  have e1 := ha.len
  rcases Nat.lt_or_ge j a.length with hlt | hge
  · apply ig_some
    unfold joinH
    rw [List.append_assoc, List.getElem?_append_left (by rw [List.length_take]; omega), List.getElem?_take_of_lt hlt, ig_at (by omega)]
  · have hj : j = a.length := by omega
    subst hj
    have := joinH_b ha hb (j := 0) (Nat.zero_le _)
    rw [Nat.add_zero] at this
    rw [this, ha.last, show ((0 : Nat) : Int) = 0 from rfl, hb.zero]; rfl
theorem joinH_c (ha : Ver a v Ha Ta) (hb : Ver b v Hb Tb) : ig (joinH a Ha Hb) (a.length + b.length + 1 : Nat) = 1 := by
  have e1 := ha.len
  have e2 := hb.len
  apply ig_some
  unfold joinH
  have hz : a.length + b.length + 1 - (Ha.take a.length ++ Hb.map (· + 1)).length = 0 := by simp; omega
  rw [List.getElem?_append_right (by simp; omega), hz]
  rfl
theorem joinT_a (ha : Ver a v Ha Ta) (hb : Ver b v Hb Tb) {j : Nat} (h : j ≤ a.length) : joinT a b Ta Tb j = Ta j := by
  unfold joinT
  by_cases hj : j < a.length
  · rw [if_pos hj]
  · have : j = a.length := by omega
    subst this
    rw [if_neg (by omega), if_pos (by omega), Nat.sub_self, hb.start, ver_end ha]; rfl
theorem joinT_b {j : Nat} (h : j ≤ b.length) : joinT a b Ta Tb (a.length + j) = (Tb j).map (shT a.length) := by
  unfold joinT
  rw [if_neg (by omega), if_pos (by omega), Nat.add_sub_cancel_left]
theorem inner_map (tr : List Tr) (d n n' : Int) : (tr = [] ∧ innerF (tr.map (shT d)) n = (-1, n, 0)) ∨ innerF (tr.map (shT d)) n = shT d (innerF tr n') := by
  rcases nil_or_concat' tr with e | ⟨D, t, e⟩
  · subst e; exact .inl ⟨rfl, rfl⟩
  · subst e; right; rw [List.map_append, List.map_singleton, inner_last, inner_last]
theorem mov_op (d : Int) (t : Term) : (movT d t).op = t.op := by unfold movT; split <;> rfl
theorem mov_arg {d : Int} {t : Term} (h : t.op = 7 ∨ t.op = 8 ∨ t.op = 9) : (movT d t).arg = t.arg + d := by unfold movT; rw [if_pos h]
theorem mov_same {d : Int} {t : Term} (h : ¬ (t.op = 7 ∨ t.op = 8 ∨ t.op = 9)) : movT d t = t := by unfold movT; rw [if_neg h]
theorem gifts_mov (x : Term) (i h d : Int) : giftsF (movT d x) (i + d) (h + 1) = (giftsF x i h).map fun g => ⟨g.op + d, g.arg + 1⟩ := by
  unfold giftsF
  rw [mov_op]
  split
  · simp; omega
  split
  · simp; omega
  split
  · rw [mov_arg (by omega)]; simp; omega
  split
  · rw [mov_arg (by omega)]; simp
  split
  · rw [mov_arg (by omega)]; simp; omega
  · simp; omega
theorem trNext_mov (x : Term) (i h d : Int) (tr : List Tr) : trNext (movT d x) (i + d) (h + 1) (tr.map (shT d)) = (trNext x i h tr).map (shT d) := by
  unfold trNext
  rw [mov_op]
  split
  · rename_i h9
    rw [mov_arg (by omega), List.map_append]; rfl
  split
  · rw [List.map_dropLast]
  · rfl
theorem join_next (ha : Ver a v Ha Ta) (hb : Ver b v Hb Tb) (op : Int) (i : Nat) (hi : i < (joinL a b op).length) : joinT a b Ta Tb (i + 1) = trNext (insAt (joinL a b op) i) i (ig (joinH a Ha Hb) i) (joinT a b Ta Tb i) := by
  rw [joinL_length] at hi
  rcases Nat.lt_or_ge i a.length with h1 | h1
  · rw [joinT_a ha hb (by omega), joinT_a ha hb (by omega), joinL_a h1, joinH_a ha hb (by omega), ha.next i h1]
  · obtain ⟨j, rfl⟩ : ∃ j, i = a.length + j := ⟨i - a.length, by omega⟩
    rcases Nat.lt_or_ge j b.length with h2 | h2
    · rw [show a.length + j + 1 = a.length + (j + 1) by omega, joinT_b (by omega), joinT_b (by omega), joinL_b h2, joinH_b ha hb (by omega), hb.next j h2, ← trNext_mov]
      congr 1
      push_cast; omega
    · have : j = b.length := by omega
      subst this
      rw [joinL_c, joinT_b (Nat.le_refl _), ver_end hb]
      unfold joinT
      rw [if_neg (by omega), if_neg (by omega)]; rfl
theorem known_mov {x : Term} {v d : Int} (hd : 0 ≤ d) (h : knownF x v = true) (hj : x.op = 7 ∨ x.op = 8 ∨ x.op = 9 → x.arg + d ≤ 1024) : knownF (movT d x) v = true := by
  by_cases h7 : x.op = 7 ∨ x.op = 8 ∨ x.op = 9
  · obtain ⟨_, _, _, _, _, _, _, k8, _⟩ := known_parts h
    have := k8 h7
    have := hj h7
    cases x with
    | mk o g =>
      unfold movT
      rw [if_pos h7]
      dsimp only at *
      rcases h7 with e | e | e <;> subst e
      · exact known_mk 7 rfl (by decide) (by decide) (by omega) (lo := 0) (hi := 1024) rfl rfl (by omega) (by omega)
      · exact known_mk 8 rfl (by decide) (by decide) (by omega) (lo := 0) (hi := 1024) rfl rfl (by omega) (by omega)
      · exact known_mk 9 rfl (by decide) (by decide) (by omega) (lo := 0) (hi := 1024) rfl rfl (by omega) (by omega)
  · rw [mov_same h7]; exact h
theorem inner_more (tr : List Tr) {n n' : Int} (h : n ≤ n') : (innerF tr n).2.1 ≤ (innerF tr n').2.1 ∧ (tr ≠ [] → innerF tr n = innerF tr n') := by
  rcases nil_or_concat' tr with e | ⟨D, t, e⟩
  · subst e; exact ⟨h, fun h => absurd rfl h⟩
  · subst e; rw [inner_last, inner_last]; exact ⟨Int.le_refl _, fun _ => rfl⟩
theorem each_mk {l : List Term} {tr : List Tr} {i : Int} {x : Term} (h1 : i < x.arg) (h2 : x.arg < l.length) (h3 : (insAt l x.arg).op = 10) (h4 : tr.length < 2) (h5 : x.arg < (innerF tr l.length).2.1) : eachF l tr i x = true := by
  unfold eachF; simp [h1, h2, h3, h4, h5]
theorem next_mk {l : List Term} {tr : List Tr} {i : Int} {x : Term} {h : Int} (h1 : (innerF tr l.length).2.1 = i) (h2 : h = (innerF tr l.length).2.2 + 1) : nextF l tr i x h = true := by
  unfold nextF; simp [h1, h2]
theorem jump_mk {l : List Term} {tr : List Tr} {i : Int} {x : Term} (h1 : i < x.arg) (h2 : x.arg ≤ (innerF tr l.length).2.1) (h3 : clearF l i x.arg = true) : jumpF l tr i x = true := by
  unfold jumpF; simp [h1, h2, h3]
theorem join_checks (ha : Ver a v Ha Ta) (hb : Ver b v Hb Tb) (hlen : a.length + b.length ≤ 1024) {op : Int} (hop : 30 ≤ op ∧ op ≤ 42) (i : Nat) (hi : i < (joinL a b op).length) : checksF (joinL a b op) v (joinT a b Ta Tb i) i (insAt (joinL a b op) i) (ig (joinH a Ha Hb) i) = true := by
  have hl := joinL_length a b op
  rcases Nat.lt_or_ge i a.length with h1 | h1
  · rw [joinT_a ha hb (by omega), joinL_a h1, joinH_a ha hb (by omega)]
    obtain ⟨c1, c2, c3, c4, c5, c6, c7⟩ := checks_parts (ha.checks i h1)
    have hin := inner_more (Ta i) (n := a.length) (n' := (joinL a b op).length) (by omega)
    refine checks_mk c1 c2 c3 c4 ?_ ?_ ?_
    · by_cases h9 : (insAt a i).op = 9
      · obtain ⟨e1, e2, e3, e4, e5⟩ := each_parts c5 h9
        obtain ⟨q, hq⟩ := Int.eq_ofNat_of_zero_le (show 0 ≤ (insAt a i).arg by omega)
        exact each_mk e1 (by omega) (by rw [hq] at e2 e3 ⊢; rw [joinL_a (by omega)]; exact e3) e4 (by omega)
      · exact each_skip h9
    · by_cases h10 : (insAt a i).op = 10
      · obtain ⟨n1, n2⟩ := next_parts c6 h10
        have hne : Ta i ≠ [] := fun e => by rw [e] at n1; simp [innerF] at n1; omega
        rw [hin.2 hne] at n1 n2
        exact next_mk n1 n2
      · exact next_skip h10
    · by_cases h78 : (insAt a i).op = 7 ∨ (insAt a i).op = 8
      · obtain ⟨j1, j2, j3⟩ := jump_parts c7 h78
        obtain ⟨_, s2, s3, _⟩ := same_jump ha h1 h78
        refine jump_mk j1 (by omega) ?_
        rw [← s3] at j3 ⊢
        exact clear_mk fun k k1 k2 k3 k9 => by
          rw [joinL_a (by omega)] at k9 ⊢
          exact clear_parts j3 k k1 k2 (by omega) k9
      · exact jump_skip (by omega) (by omega)
  · obtain ⟨j, rfl⟩ : ∃ j, i = a.length + j := ⟨i - a.length, by omega⟩
    rcases Nat.lt_or_ge j b.length with h2 | h2
    · rw [joinT_b (by omega), joinL_b h2, joinH_b ha hb (by omega)]
      obtain ⟨c1, c2, c3, c4, c5, c6, c7⟩ := checks_parts (hb.checks j h2)
      have hin := inner_map (Tb j) a.length (joinL a b op).length b.length
      refine checks_mk (by omega) (known_mov (by omega) c2 fun h789 => ?_) ?_ (by rw [mov_op]; omega) ?_ ?_ ?_
      · rcases h789 with h | h | h
        · obtain ⟨_, s2, s3, _⟩ := same_jump hb h2 (.inl h); omega
        · obtain ⟨_, s2, s3, _⟩ := same_jump hb h2 (.inr h); omega
        · have := each_parts c5 h; omega
      · have e1 : needsF (movT a.length (insAt b j)) = needsF (insAt b j) := by
          by_cases h789 : (insAt b j).op = 7 ∨ (insAt b j).op = 8 ∨ (insAt b j).op = 9
          · unfold needsF
            rw [mov_op]
            have g1 : ¬ ((insAt b j).op = 3 ∨ ((insAt b j).op = 4 ∧ 11 ≤ (movT a.length (insAt b j)).arg)) := by omega
            have g2 : ¬ ((insAt b j).op = 3 ∨ ((insAt b j).op = 4 ∧ 11 ≤ (insAt b j).arg)) := by omega
            rw [decide_eq_false g1, decide_eq_false g2]
          · rw [mov_same h789]
        rw [e1, List.isEmpty_map]
        exact c3
      · by_cases h9 : (insAt b j).op = 9
        · obtain ⟨e1, e2, e3, e4, e5⟩ := each_parts c5 h9
          obtain ⟨q, hq⟩ := Int.eq_ofNat_of_zero_le (show 0 ≤ (insAt b j).arg by omega)
          have hm := mov_arg (d := a.length) (t := insAt b j) (by omega)
          refine each_mk (by rw [hm]; push_cast; omega) (by rw [hm]; omega) ?_ (by rw [List.length_map]; exact e4) ?_
          · rw [hm, hq, show (q : Int) + (a.length : Int) = ((a.length + q : Nat) : Int) by omega, joinL_b (by omega), mov_op, ← hq]
            exact e3
          · rw [hm]
            rcases hin with ⟨_, h⟩ | h
            · rw [h]; dsimp only; omega
            · rw [h]; show _ < (innerF (Tb j) b.length).2.1 + (a.length : Int); omega
        · exact each_skip (by rw [mov_op]; exact h9)
      · by_cases h10 : (insAt b j).op = 10
        · obtain ⟨n1, n2⟩ := next_parts c6 h10
          rcases hin with ⟨h, _⟩ | h
          · rw [h] at n1; simp [innerF] at n1; omega
          · refine next_mk ?_ ?_
            · rw [h]; show (innerF (Tb j) b.length).2.1 + (a.length : Int) = _; push_cast; omega
            · rw [h]; show _ = (innerF (Tb j) b.length).2.2 + 1 + 1; omega
        · exact next_skip (by rw [mov_op]; exact h10)
      · by_cases h78 : (insAt b j).op = 7 ∨ (insAt b j).op = 8
        · obtain ⟨j1, j2, j3⟩ := jump_parts c7 h78
          obtain ⟨_, s2, s3, _⟩ := same_jump hb h2 h78
          have hm := mov_arg (d := a.length) (t := insAt b j) (by omega)
          refine jump_mk (by rw [hm]; push_cast; omega) ?_ ?_
          · rw [hm]
            rcases hin with ⟨_, h⟩ | h
            · rw [h]; dsimp only; omega
            · rw [h]; show _ ≤ (innerF (Tb j) b.length).2.1 + (a.length : Int); omega
          · rw [← s3] at j3
            rw [hm, ← s3, show (((insAt b j).arg.toNat : Nat) : Int) + (a.length : Int) = ((a.length + (insAt b j).arg.toNat : Nat) : Int) by omega]
            exact clear_mk fun k k1 k2 k3 k9 => by
              obtain ⟨q, rfl⟩ : ∃ q, k = a.length + q := ⟨k - a.length, by omega⟩
              rw [joinL_b (by omega)] at k9 ⊢
              rw [mov_op] at k9
              rw [mov_arg (by omega)]
              have := clear_parts j3 q (by omega) (by omega) (by omega) k9
              push_cast; omega
        · exact jump_skip (by rw [mov_op]; omega) (by rw [mov_op]; omega)
    · have : j = b.length := by omega
      subst this
      rw [joinL_c, joinH_b ha hb (Nat.le_refl _), hb.last]
      exact checks_mk (by omega) (known_mk 6 rfl (by decide) (by decide) (by simp) (lo := 30) (hi := 42) rfl rfl hop.1 hop.2) (by simp [needsF]) (by simp [wantsF]) (each_skip (by simp)) (next_skip (by simp)) (jump_skip (by simp) (by simp))
theorem join_ver (ha : Ver a v Ha Ta) (hb : Ver b v Hb Tb) (hlen : a.length + b.length ≤ 1024) (h64 : ∀ i : Nat, i < b.length → ∀ g ∈ giftsF (insAt b i) i (ig Hb i), g.arg + 1 ≤ 64) {op : Int} (hop : 30 ≤ op ∧ op ≤ 42) : Ver (joinL a b op) v (joinH a Ha Hb) (joinT a b Ta Tb) := by
  have hl := joinL_length a b op
  have hla := ha.len
  have hlb := hb.len
  have hgB : ∀ j : Nat, j < b.length → giftsF (movT a.length (insAt b j)) ((a.length + j : Nat) : Int) (ig Hb j + 1) = (giftsF (insAt b j) j (ig Hb j)).map fun g => ⟨g.op + a.length, g.arg + 1⟩ := fun j _ => by
    rw [← gifts_mov]; congr 1; push_cast; omega
  refine ⟨?_, ?_, ?_, ?_, join_next ha hb op, join_checks ha hb hlen hop, ?_, ?_⟩
  · rw [hl]; unfold joinH; simp; omega
  · have := joinH_a ha hb (j := 0) (Nat.zero_le _)
    rw [show ((0 : Nat) : Int) = 0 from rfl, ha.zero] at this
    exact this
  · rw [hl]; exact joinH_c ha hb
  · rw [joinT_a ha hb (Nat.zero_le _)]; exact ha.start
  · intro i hi g hg
    rcases Nat.lt_or_ge i a.length with h1 | h1
    · rw [joinL_a h1, joinH_a ha hb (by omega)] at hg
      obtain ⟨f1, f2⟩ := gifts_fwd ha h1 g hg
      obtain ⟨q, hq⟩ := Int.eq_ofNat_of_zero_le (show 0 ≤ g.op by omega)
      have := ha.gifts i h1 g hg
      rw [hq] at this ⊢
      rw [joinH_a ha hb (by omega)]
      exact this
    · obtain ⟨j, rfl⟩ : ∃ j, i = a.length + j := ⟨i - a.length, by omega⟩
      rcases Nat.lt_or_ge j b.length with h2 | h2
      · rw [joinL_b h2, joinH_b ha hb (by omega), hgB j h2] at hg
        obtain ⟨g0, hg0, rfl⟩ := List.mem_map.1 hg
        obtain ⟨f1, f2⟩ := gifts_fwd hb h2 g0 hg0
        obtain ⟨q, hq⟩ := Int.eq_ofNat_of_zero_le (show 0 ≤ g0.op by omega)
        have g1 := hb.gifts j h2 g0 hg0
        have g2 := h64 j h2 g0 hg0
        dsimp only
        rw [hq] at g1 ⊢
        rw [show (q : Int) + (a.length : Int) = ((a.length + q : Nat) : Int) by omega, joinH_b ha hb (by omega)]
        exact ⟨by omega, g2⟩
      · have : j = b.length := by omega
        subst this
        rw [joinL_c, joinH_b ha hb (Nat.le_refl _), hb.last] at hg
        have he : g = ⟨(a.length + b.length : Nat) + 1, 1⟩ := by simpa [giftsF] using hg
        subst he
        have := joinH_c ha hb
        exact ⟨(show ig (joinH a Ha Hb) (((a.length + b.length : Nat) : Int) + 1) = 1 from this), by simp⟩
  · intro j hj h0
    rw [hl] at hj
    rcases Nat.lt_or_ge a.length j with h1 | h1
    · rcases Nat.lt_or_ge (a.length + b.length) j with h2 | h2
      · have : j = a.length + b.length + 1 := by omega
        subst this
        refine ⟨a.length + b.length, by omega, ⟨(a.length + b.length : Nat) + 1, 1⟩, ?_, by push_cast; rfl⟩
        rw [joinL_c, joinH_b ha hb (Nat.le_refl _), hb.last]
        simp [giftsF]
      · obtain ⟨k, k1, g, k2, k3⟩ := hb.given (j - a.length) (by omega) (by omega)
        refine ⟨a.length + k, by omega, ⟨g.op + a.length, g.arg + 1⟩, ?_, by dsimp only; omega⟩
        rw [joinL_b k1, joinH_b ha hb (by omega), hgB k k1]
        exact List.mem_map.2 ⟨g, k2, rfl⟩
    · obtain ⟨k, k1, g, k2, k3⟩ := ha.given j h1 h0
      refine ⟨k, by omega, g, ?_, k3⟩
      rw [joinL_a k1, joinH_a ha hb (by omega)]
      exact k2
end

end Go.Proofs.YtaifafljakojnaaGreat

/- The run of two lists, one behind the other, and a binary operation. -/
namespace Go.Proofs.YtaifafljakojnaaGreat

theorem end_state {E : Env} {l : List Term} {v : Int} {H : List Int} {T : Nat → List Tr} (hv : Ver l v H T) {s : MS} (hs : MInv E l H T s) (hp : s.place = l.length) : ∃ x, s = ⟨l.length, [x], []⟩ ∧ Num x := by
  have h1 := hs.height
  rw [hp, hv.last] at h1
  have h2 := hs.loops
  rw [hp, ver_end hv] at h2
  have h3 := loops_len h2
  obtain ⟨p, st, L⟩ := s
  dsimp only at *
  match st, h1 with
  | [x], _ =>
    match L, h3 with
    | [], _ => exact ⟨x, by rw [hp], hs.nums x (List.mem_cons_self ..)⟩
theorem step_a {E : Env} {a b : List Term} {v : Int} {Ha : List Int} {Ta : Nat → List Tr} (ha : Ver a v Ha Ta) {op : Int} {s : MS} (hp : s.place < a.length) : stepM E (joinL a b op) s = stepM E a s := by
  obtain ⟨_, _, _, _, c5, _, _⟩ := checks_parts (ha.checks s.place hp)
  unfold stepM
  dsimp only
  rw [joinL_a hp]
  by_cases h9 : (insAt a s.place).op = 9
  · obtain ⟨e1, e2, _⟩ := each_parts c5 h9
    obtain ⟨q, hq⟩ := Int.eq_ofNat_of_zero_le (show 0 ≤ (insAt a s.place).arg by omega)
    have : insAt (joinL a b op) (insAt a s.place).arg = insAt a (insAt a s.place).arg := by rw [hq]; exact joinL_a (by omega)
    rw [this]
  · simp only [if_neg h9]
theorem run_a {E : Env} {a b : List Term} {v : Int} {Ha : List Int} {Ta : Nat → List Tr} (ha : Ver a v Ha Ta) (op : Int) {s s' : MS} {n : Nat} (h : RunM E a s n s') : RunM E (joinL a b op) s n s' := by
  induction h with
  | here s => exact .here s
  | step hp _ ih => exact .step (by rw [joinL_length]; omega) (by rw [step_a ha hp]; exact ih)
def shM (d : Nat) (x : Int) (s : MS) : MS := ⟨d + s.place, s.stack ++ [x], s.loops.map fun f => (d + f.1, f.2)⟩
theorem port_shM (d : Nat) (x : Int) (s : MS) : portM (shM d x s) = portM s := by
  unfold portM shM
  cases s.loops <;> rfl
theorem top1_shM {d : Nat} {x : Int} {s : MS} (h : 1 ≤ s.stack.length) : top1 (shM d x s) = top1 s ∧ (shM d x s).stack.tail = s.stack.tail ++ [x] := by
  unfold top1 shM
  cases hs : s.stack with
  | nil => rw [hs] at h; simp at h
  | cons y st => exact ⟨rfl, rfl⟩
theorem top2_shM {d : Nat} {x : Int} {s : MS} (h : 2 ≤ s.stack.length) : top2 (shM d x s) = top2 s ∧ (shM d x s).stack.tail.tail = s.stack.tail.tail ++ [x] := by
  unfold top2 shM
  match hs : s.stack with
  | [] => rw [hs] at h; simp at h
  | [y] => rw [hs] at h; simp at h
  | y :: z :: st => exact ⟨rfl, rfl⟩
set_option maxHeartbeats 1000000 in
theorem step_b {E : Env} {a b : List Term} {v : Int} {Hb : List Int} {Tb : Nat → List Tr} (hb : Ver b v Hb Tb) {op x : Int} {s : MS} (hs : MInv E b Hb Tb s) (hp : s.place < b.length) : stepM E (joinL a b op) (shM a.length x s) = shM a.length x (stepM E b s) := by
  obtain ⟨c1, c2, c3, c4, c5, c6, c7⟩ := checks_parts (hb.checks s.place hp)
  obtain ⟨k1, k2, k3, k4, k5, k6, k7, k8, k9⟩ := known_parts c2
  have hh := hs.height
  have hx : insAt (joinL a b op) ((shM a.length x s).place : Nat) = movT a.length (insAt b s.place) := joinL_b hp
  have hpl : (shM a.length x s).place = a.length + s.place := rfl
  have hst : (shM a.length x s).stack = s.stack ++ [x] := rfl
  have hlo : (shM a.length x s).loops = s.loops.map fun f => (a.length + f.1, f.2) := rfl
  unfold stepM
  dsimp only
  rw [hx, mov_op, port_shM]
  by_cases e1' : (insAt b s.place).op = 1
  · rw [if_pos e1', if_pos e1']
    rw [mov_same (by omega)]; rfl
  rw [if_neg e1', if_neg e1']
  by_cases e2' : (insAt b s.place).op = 2
  · rw [if_pos e2', if_pos e2']
    rw [mov_same (by omega)]; rfl
  rw [if_neg e2', if_neg e2']
  by_cases e3' : (insAt b s.place).op = 3
  · rw [if_pos e3', if_pos e3']
    rw [mov_same (by omega)]; rfl
  rw [if_neg e3', if_neg e3']
  by_cases e4' : (insAt b s.place).op = 4
  · rw [if_pos e4', if_pos e4']
    rw [mov_same (by omega)]; rfl
  rw [if_neg e4', if_neg e4']
  by_cases e5' : (insAt b s.place).op = 5
  · rw [if_pos e5', if_pos e5']
    have e := e5'
    have hw : 1 ≤ ig Hb s.place := by unfold wantsF at c4; rw [if_pos (by omega)] at c4; exact c4
    obtain ⟨t1, t2⟩ := top1_shM (d := a.length) (x := x) (s := s) (by omega)
    rw [mov_same (by omega), t1, t2]; rfl
  rw [if_neg e5', if_neg e5']
  by_cases e6' : (insAt b s.place).op = 6
  · rw [if_pos e6', if_pos e6']
    have e := e6'
    have hw : 2 ≤ ig Hb s.place := by unfold wantsF at c4; rw [if_neg (by omega), if_pos (by omega)] at c4; exact c4
    obtain ⟨t1, t2⟩ := top1_shM (d := a.length) (x := x) (s := s) (by omega)
    obtain ⟨u1, u2⟩ := top2_shM (d := a.length) (x := x) (s := s) (by omega)
    rw [mov_same (by omega), t1, u1, u2]; rfl
  rw [if_neg e6', if_neg e6']
  by_cases e7' : (insAt b s.place).op = 7
  · rw [if_pos e7', if_pos e7']
    have e := e7'
    have hw : 1 ≤ ig Hb s.place := by unfold wantsF at c4; rw [if_pos (by omega)] at c4; exact c4
    obtain ⟨t1, t2⟩ := top1_shM (d := a.length) (x := x) (s := s) (by omega)
    have h0 := k8 (by omega)
    rw [mov_arg (by omega), t1, t2, hpl, hlo, show ((insAt b s.place).arg + (a.length : Int)).toNat = a.length + (insAt b s.place).arg.toNat by omega]
    by_cases h1 : top1 s = 0
    · rw [if_pos h1, if_pos h1]; rfl
    · rw [if_neg h1, if_neg h1]; rfl
  rw [if_neg e7', if_neg e7']
  by_cases e8' : (insAt b s.place).op = 8
  · rw [if_pos e8', if_pos e8']
    have e := e8'
    have h0 := k8 (by omega)
    rw [mov_arg (by omega), show ((insAt b s.place).arg + (a.length : Int)).toNat = a.length + (insAt b s.place).arg.toNat by omega]; rfl
  rw [if_neg e8', if_neg e8']
  by_cases e9' : (insAt b s.place).op = 9
  · rw [if_pos e9', if_pos e9']
    have e := e9'
    obtain ⟨e1, e2, e3, _⟩ := each_parts c5 e
    obtain ⟨q, hq⟩ := Int.eq_ofNat_of_zero_le (show 0 ≤ (insAt b s.place).arg by omega)
    have h3 : insAt (joinL a b op) ((insAt b s.place).arg + (a.length : Int)) = insAt b (insAt b s.place).arg := by
      rw [hq] at e3 ⊢
      rw [show (q : Int) + (a.length : Int) = ((a.length + q : Nat) : Int) by omega, joinL_b (by omega), mov_same (by omega)]
    rw [mov_arg (by omega), h3, show ((insAt b s.place).arg + (a.length : Int)).toNat = a.length + (insAt b s.place).arg.toNat by omega]
    split
    · rfl
    · rfl
  · rw [if_neg e9', if_neg e9']
    have e10 : (insAt b s.place).op = 10 := by omega
    obtain ⟨n1, n2⟩ := next_parts c6 e10
    rw [mov_same (by omega)]
    unfold nextM
    rw [hlo]
    cases hl : s.loops with
    | nil => simp only [List.map_nil]
    | cons f r =>
      have hlo2 := hs.loops
      rw [hl] at hlo2
      obtain ⟨D, t, hT, ht, hD⟩ := loops_top hlo2
      rw [hT, inner_last] at n2
      obtain ⟨e0, nx, b1, b2, b3, b4, b5, b6, b7, _⟩ := ver_nested hb s.place (by omega) D t [] hT
      rw [b1] at n2
      dsimp only at n2
      have hpos := (checks_parts (hb.checks e0 (by omega))).1
      obtain ⟨t1, t2⟩ := top1_shM (d := a.length) (x := x) (s := s) (by omega)
      simp only [List.map_cons]
      rw [t1, t2, hpl]
      split
      · rfl
      · rfl
theorem run_b {E : Env} {a b : List Term} {v : Int} {Hb : List Int} {Tb : Nat → List Tr} (hb : Ver b v Hb Tb) (hE : EnvOK E v) (hfold : ∀ (op : Int) (l : List Int), (∀ x ∈ l, Num x) → l.length < 24 → Num (foldF op l)) (hd : E.deg < 24) (op x : Int) {s s' : MS} {n : Nat} (h : RunM E b s n s') : MInv E b Hb Tb s → RunM E (joinL a b op) (shM a.length x s) n (shM a.length x s') := by
  induction h with
  | here s => intro _; exact .here _
  | step hp _ ih => intro hs; exact .step (by rw [joinL_length]; show a.length + _ < _; omega) (by rw [step_b hb hs hp]; exact ih (inv_step hb hE hfold hd hs hp))
/-- The run of the joined list. -/
theorem run_join {E : Env} {a b : List Term} {v : Int} {Ha Hb : List Int} {Ta Tb : Nat → List Tr} (ha : Ver a v Ha Ta) (hb : Ver b v Hb Tb) (hE : EnvOK E v) (hfold : ∀ (op : Int) (l : List Int), (∀ x ∈ l, Num x) → l.length < 24 → Num (foldF op l)) (hd : E.deg < 24) (op : Int) {x y : Int} {n m : Nat}
    (h1 : RunM E a startM n ⟨a.length, [x], []⟩) (h2 : RunM E b startM m ⟨b.length, [y], []⟩) : RunM E (joinL a b op) startM (n + m + 1) ⟨(joinL a b op).length, [binaryF op x y], []⟩ := by
  refine ((run_a ha op h1).trans (run_b (a := a) hb hE hfold hd op x h2 (start_minv hb))).trans (.one ?_ ?_)
  · rw [joinL_length]; show a.length + b.length < _; omega
  · unfold stepM
    dsimp only
    have : (shM a.length x ⟨b.length, [y], []⟩).place = a.length + b.length := rfl
    rw [this, joinL_c, joinL_length]
    rfl

end Go.Proofs.YtaifafljakojnaaGreat

