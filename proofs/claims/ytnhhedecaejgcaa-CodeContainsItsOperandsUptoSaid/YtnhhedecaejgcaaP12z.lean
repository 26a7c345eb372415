/- Verify runs through the code of a part of an expression. -/
import Derived.Test.YtnhhedecaejgcaaP12y
namespace Go.Proofs.Ytnhhedecaejgcaa

theorem Hts.set {hs hs1 : List Int} {f p e : Nat} {u v : Int} (h : Hts hs hs1 f p u) (hf : f ≤ p) (hp : p < e) (he : e < hs1.length) : Hts hs (hs1.set e v) f e v := by
  refine ⟨by rw [List.length_set, h.len], fun j hj => ?_, fun j hj => ?_, ?_⟩
  · rw [ig_set he, if_neg (by omega)]; exact h.low j hj
  · rw [ig_set he, if_neg (by omega)]; exact h.high j (by omega)
  · rw [ig_set he, if_pos rfl]
theorem Hts.trans {hs hs1 hs2 : List Int} {f p q : Nat} {u v : Int} (h : Hts hs hs1 f p u) (h2 : Hts hs1 hs2 p q v) (hf : f ≤ p) (hp : p ≤ q) : Hts hs hs2 f q v :=
  ⟨h2.len.trans h.len, fun j hj => (h2.low j (by omega)).trans (h.low j hj), fun j hj => (h2.high j hj).trans (h.high j (by omega)), h2.at_⟩

def RunOk (l : List Term) (v : Int) (y : Ex) : Prop :=
  ∀ (f : Nat) (hs : List Int) (tr : List Tr) (most h : Int) (r : List Term), y.ok → (∀ t ∈ y.terms, argF t v = true) → y.inside (!tr.isEmpty) → (tr.length : Int) + y.nest ≤ 2 → h + y.depth ≤ 64 → l.drop f = y.code f ++ r → Pre l hs tr f (f + y.size) h →
    ∃ hs' most', (∀ q, verGo l v (q + y.size) f hs tr most = verGo l v q (f + y.size) hs' tr most') ∧ Hts hs hs' f (f + y.size) (h + 1) ∧ max most (h + 1) ≤ most' ∧ most' ≤ max most (h + y.depth)

theorem run_leaf {l : List Term} {v : Int} (t : Term) : RunOk l v (.leaf t) := by
  intro f hs tr most h r hok harg hin hnest hdep hd hp
  have ha : arity t.op = 0 := hok
  obtain ⟨k1, k2, k3⟩ := leaf_known ha (harg t (by simp [Ex.terms]))
  obtain ⟨hx, _, hlt⟩ := ins_of_drop (x := leafI t) (r := r) hd
  simp only [Ex.depth] at hdep
  have hg := gifts_leaf (i := (f : Int)) (h := h) k2
  have he : (f : Int) + 1 = ((f + 1 : Nat) : Int) := by omega
  rw [he] at hg
  have hc : checksF l v tr f (leafI t) h = true := by
    refine checks_mk hp.h0 k1 ?_ ?_ (each_skip (by omega)) (next_skip (by omega)) (jump_skip (by omega) (by omega))
    · cases hn : needsF (leafI t) with
      | false => rfl
      | true =>
        have := hin (k3 hn)
        rw [Bool.true_and]; simpa using this
    · unfold wantsF; rw [if_neg (by omega), if_neg (by omega)]; exact hp.h0
  have hst := stepGo (m := most) hx hp.now hc (by rw [hg]; exact give_one hp.goal) (by rw [hg]; exact most_one (by omega))
  rw [trNext_same (by omega) (by omega)] at hst
  refine ⟨hs.set (f + 1) (h + 1), max most (h + 1), hst, ?_, by omega, by simp only [Ex.depth]; omega⟩
  have hlen : f + 1 < hs.length := by have := hp.len; have := hp.el; simp only [Ex.size] at this; omega
  refine ⟨List.length_set, fun j hj => ?_, fun j hj => ?_, ?_⟩
  · rw [ig_set hlen, if_neg (by omega)]
  · simp only [Ex.size] at hj; rw [ig_set hlen, if_neg (by omega)]
  · simp only [Ex.size]; rw [ig_set hlen, if_pos rfl]

theorem run_un {l : List Term} {v : Int} (hl : l.length ≤ 1024) (t : Term) (a : Ex) (ih : RunOk l v a) : RunOk l v (.un t a) := by
  intro f hs tr most h r hok harg hin hnest hdep hd hp
  obtain ⟨ha, hoka⟩ := hok
  have harga : ∀ t ∈ a.terms, argF t v = true := fun u hu => harg u (by simp [Ex.terms, hu])
  have hpos := a.size_pos
  have hdp := a.depth_pos
  simp only [Ex.depth] at hdep
  have hop : 18 ≤ t.op ∧ t.op ≤ 29 := by unfold arity at ha; repeat' split at ha <;> omega
  have hinb := hp.inn
  have heln := hp.el
  have hlen := hp.len
  cases hag : aggregate t.op with
  | false =>
    have hop2 : t.op = 18 ∨ t.op = 19 := by unfold aggregate at hag; simp at hag; omega
    have hsz : (Ex.un t a).size = a.size + 1 := by simp [Ex.size, hag]
    have hcd : (Ex.un t a).code f = a.code f ++ [⟨5, t.op⟩] := by simp [Ex.code, hag]
    rw [hsz] at hp heln hinb ⊢
    rw [hcd, List.append_assoc] at hd
    have hin' : a.inside (!tr.isEmpty) := by simpa [Ex.inside, hag] using hin
    have hne' : (tr.length : Int) + a.nest ≤ 2 := by simpa [Ex.nest, hag] using hnest
    obtain ⟨hs1, m1, g1, g2, g3, g4⟩ := ih f hs tr most h _ hoka harga hin' hne' (by omega) hd ⟨hlen, by omega, by omega, hp.now, hp.h0, fun j h1 h2 => hp.free j h1 (by omega), .inl (hp.free _ (by omega) (by omega)), by omega⟩
    have hd2 := drop_of_drop hd (a.code_length f)
    obtain ⟨hx, _, _⟩ := ins_of_drop (x := ⟨5, t.op⟩) (r := r) hd2
    have hc : checksF l v tr ((f + a.size : Nat) : Int) ⟨5, t.op⟩ (h + 1) = true := by
      refine checks_mk (by have := hp.h0; omega) (known_mk (lo := 18) (hi := 19) 5 rfl (by omega) (by omega) (by simp) rfl rfl (by omega) (by omega)) (by simp [needsF]) ?_ (each_skip (by simp)) (next_skip (by simp)) (jump_skip (by simp) (by simp))
      have := hp.h0
      simp [wantsF]; omega
    have hg : giftsF ⟨5, t.op⟩ ((f + a.size : Nat) : Int) (h + 1) = [⟨((f + a.size + 1 : Nat) : Int), h + 1⟩] := by simp [giftsF]
    have hgl : ig hs1 ((f + (a.size + 1) : Nat) : Int) = -1 ∨ ig hs1 ((f + (a.size + 1) : Nat) : Int) = h + 1 := by rw [g2.high _ (by omega)]; exact hp.goal
    have hst := stepGo (m := m1) hx g2.at_ hc (by rw [hg]; exact give_one hgl) (by rw [hg]; exact most_one (by omega))
    rw [trNext_same (by simp) (by simp)] at hst
    refine ⟨hs1.set (f + a.size + 1) (h + 1), max m1 (h + 1), fun q => ?_, g2.set (by omega) (by omega) (by rw [g2.len]; omega), by omega, by simp only [Ex.depth]; omega⟩
    rw [show q + (a.size + 1) = (q + 1) + a.size by omega, g1, hst]; rfl
  | true =>
    have hop2 : 20 ≤ t.op := by unfold aggregate at hag; simp at hag; omega
    have hsz : (Ex.un t a).size = a.size + 2 := by simp [Ex.size, hag]
    have hcd : (Ex.un t a).code f = ⟨9, ((f + 1 + a.size : Nat) : Int)⟩ :: (a.code (f + 1) ++ [⟨10, t.op⟩]) := by simp [Ex.code, hag]
    rw [hsz] at hp heln hinb ⊢
    rw [hcd, List.cons_append, List.append_assoc] at hd
    obtain ⟨hx, hd1, hfl⟩ := ins_of_drop hd
    have hd2 := drop_of_drop hd1 (a.code_length (f + 1))
    obtain ⟨hx2, _, hal⟩ := ins_of_drop (x := ⟨10, t.op⟩) (r := r) hd2
    have hin' : a.inside true := by simpa [Ex.inside, hag] using hin
    have hne' : (tr.length : Int) + (a.nest + 1) ≤ 2 := by simpa [Ex.nest, hag] using hnest
    have hnp := a.nest_pos
    have h0 := hp.h0
    have hc : checksF l v tr (f : Int) ⟨9, ((f + 1 + a.size : Nat) : Int)⟩ h = true := by
      refine checks_mk h0 (known_mk (lo := 0) (hi := 1024) 9 rfl (by omega) (by omega) (by simp) rfl rfl (by omega) (by omega)) (by simp [needsF]) (by simp [wantsF]; exact h0) ?_ (next_skip (by simp)) (jump_skip (by simp) (by simp))
      unfold eachF
      rw [hx2]
      simp
      omega
    have hg : giftsF ⟨9, ((f + 1 + a.size : Nat) : Int)⟩ (f : Int) h = [⟨((f + 1 : Nat) : Int), h⟩, ⟨((f + (a.size + 2) : Nat) : Int), h + 1⟩] := by
      simp [giftsF]; omega
    have hf1 : f + 1 < hs.length := by omega
    have hfe : f + (a.size + 2) < hs.length := by omega
    have hst := stepGo (m := most) hx hp.now hc (by rw [hg]; exact give_two hf1 (by omega) (.inl (hp.free _ (by omega) (by omega))) hp.goal) (by rw [hg]; exact most_two (by omega) (by omega))
    rw [show trNext ⟨9, ((f + 1 + a.size : Nat) : Int)⟩ (f : Int) h tr = tr ++ [((f : Int), ((f + 1 + a.size : Nat) : Int), h)] by simp [trNext]] at hst
    have hig : ∀ j : Nat, ig ((hs.set (f + 1) h).set (f + (a.size + 2)) (h + 1)) (j : Int) = if j = f + (a.size + 2) then h + 1 else if j = f + 1 then h else ig hs (j : Int) := by
      intro j
      rw [ig_set (by rw [List.length_set]; exact hfe), ig_set hf1]
    have hinn : innerF (tr ++ [((f : Int), ((f + 1 + a.size : Nat) : Int), h)]) l.length = ((f : Int), ((f + 1 + a.size : Nat) : Int), h) := by simp [innerF]
    obtain ⟨hs1, m1, g1, g2, g3, g4⟩ := ih (f + 1) ((hs.set (f + 1) h).set (f + (a.size + 2)) (h + 1)) (tr ++ [((f : Int), ((f + 1 + a.size : Nat) : Int), h)]) (max (max most h) (h + 1)) h _ hoka harga (by rw [show (!(tr ++ [((f : Int), ((f + 1 + a.size : Nat) : Int), h)]).isEmpty) = true by simp]; exact hin') (by simp; omega) (by omega) hd1
      ⟨by simp; omega, by omega, by omega, by rw [hig, if_neg (by omega), if_pos rfl], h0, fun j h1 h2 => by rw [hig, if_neg (by omega), if_neg (by omega)]; exact hp.free j (by omega) (by omega), .inl (by rw [hig, if_neg (by omega), if_neg (by omega)]; exact hp.free _ (by omega) (by omega)), by rw [hinn]; simp⟩
    have hc2 : checksF l v (tr ++ [((f : Int), ((f + 1 + a.size : Nat) : Int), h)]) ((f + 1 + a.size : Nat) : Int) ⟨10, t.op⟩ (h + 1) = true := by
      refine checks_mk (by omega) (known_mk (lo := 20) (hi := 29) 10 rfl (by omega) (by omega) (by simp) rfl rfl (by omega) (by omega)) (by simp [needsF]) (by simp [wantsF]; omega) (each_skip (by simp)) ?_ (jump_skip (by simp) (by simp))
      unfold nextF
      rw [hinn]
      simp
    have hg2 : giftsF ⟨10, t.op⟩ ((f + 1 + a.size : Nat) : Int) (h + 1) = [⟨((f + 1 + a.size + 1 : Nat) : Int), h + 1⟩] := by simp [giftsF]
    have hgl : ig hs1 ((f + 1 + a.size + 1 : Nat) : Int) = -1 ∨ ig hs1 ((f + 1 + a.size + 1 : Nat) : Int) = h + 1 := by
      rw [g2.high _ (by omega), hig, if_pos (by omega)]; exact .inr rfl
    have hst2 := stepGo (m := m1) hx2 g2.at_ hc2 (by rw [hg2]; exact give_one hgl) (by rw [hg2]; exact most_one (by omega))
    rw [show trNext ⟨10, t.op⟩ ((f + 1 + a.size : Nat) : Int) (h + 1) (tr ++ [((f : Int), ((f + 1 + a.size : Nat) : Int), h)]) = tr by simp [trNext]] at hst2
    have hlen1 : hs1.length = hs.length := by rw [g2.len]; simp
    refine ⟨hs1.set (f + 1 + a.size + 1) (h + 1), max m1 (h + 1), fun q => ?_, ⟨by rw [List.length_set, hlen1], fun j hj => ?_, fun j hj => ?_, ?_⟩, by omega, by simp only [Ex.depth]; omega⟩
    · rw [show q + (a.size + 2) = (q + 1 + a.size) + 1 by omega, hst, g1, hst2, show f + 1 + a.size + 1 = f + (a.size + 2) by omega]
    · rw [ig_set (by omega), if_neg (by omega), g2.low j (by omega), hig, if_neg (by omega), if_neg (by omega)]
    · rw [ig_set (by omega), if_neg (by omega), g2.high j (by omega), hig, if_neg (by omega), if_neg (by omega)]
    · rw [show f + (a.size + 2) = f + 1 + a.size + 1 by omega, ig_set (by omega), if_pos rfl]

theorem run_bin {l : List Term} {v : Int} (t : Term) (a b : Ex) (iha : RunOk l v a) (ihb : RunOk l v b) : RunOk l v (.bin t a b) := by
  intro f hs tr most h r hok harg hin hnest hdep hd hp
  obtain ⟨ha, hoka, hokb⟩ := hok
  have harga : ∀ t ∈ a.terms, argF t v = true := fun u hu => harg u (by simp [Ex.terms, hu])
  have hargb : ∀ t ∈ b.terms, argF t v = true := fun u hu => harg u (by simp [Ex.terms, hu])
  have hpa := a.size_pos
  have hpb := b.size_pos
  have hda := a.depth_pos
  have hdb := b.depth_pos
  simp only [Ex.depth] at hdep
  simp only [Ex.nest] at hnest
  obtain ⟨hia, hib⟩ := hin
  have hop : 30 ≤ t.op ∧ t.op ≤ 42 := by unfold arity at ha; repeat' split at ha <;> omega
  have hsz : (Ex.bin t a b).size = a.size + b.size + 1 := rfl
  have hcd : (Ex.bin t a b).code f = a.code f ++ b.code (f + a.size) ++ [⟨6, t.op⟩] := rfl
  rw [hsz] at hp ⊢
  rw [hcd, List.append_assoc, List.append_assoc] at hd
  have hinb := hp.inn
  have heln := hp.el
  have hlen := hp.len
  have h0 := hp.h0
  obtain ⟨hs1, m1, g1, g2, g3, g4⟩ := iha f hs tr most h _ hoka harga hia (by omega) (by omega) hd ⟨hlen, by omega, by omega, hp.now, h0, fun j h1 h2 => hp.free j h1 (by omega), .inl (hp.free _ (by omega) (by omega)), by omega⟩
  have hd2 := drop_of_drop hd (a.code_length f)
  obtain ⟨hs2, m2, k1, k2, k3, k4⟩ := ihb (f + a.size) hs1 tr m1 (h + 1) _ hokb hargb hib (by omega) (by omega) hd2 ⟨by rw [g2.len]; exact hlen, by omega, by omega, g2.at_, by omega, fun j h1 h2 => by rw [g2.high j h1]; exact hp.free j (by omega) (by omega), .inl (by rw [g2.high _ (by omega)]; exact hp.free _ (by omega) (by omega)), by omega⟩
  have hd3 := drop_of_drop hd2 (b.code_length (f + a.size))
  obtain ⟨hx, _, _⟩ := ins_of_drop (x := ⟨6, t.op⟩) (r := r) hd3
  have hc : checksF l v tr ((f + a.size + b.size : Nat) : Int) ⟨6, t.op⟩ (h + 1 + 1) = true := by
    refine checks_mk (by omega) (known_mk (lo := 30) (hi := 42) 6 rfl (by omega) (by omega) (by simp) rfl rfl (by omega) (by omega)) (by simp [needsF]) (by simp [wantsF]; omega) (each_skip (by simp)) (next_skip (by simp)) (jump_skip (by simp) (by simp))
  have hg : giftsF ⟨6, t.op⟩ ((f + a.size + b.size : Nat) : Int) (h + 1 + 1) = [⟨((f + a.size + b.size + 1 : Nat) : Int), h + 1⟩] := by simp [giftsF] <;> omega
  have hgl : ig hs2 ((f + a.size + b.size + 1 : Nat) : Int) = -1 ∨ ig hs2 ((f + a.size + b.size + 1 : Nat) : Int) = h + 1 := by
    rw [k2.high _ (by omega), g2.high _ (by omega)]
    have := hp.goal
    rw [show f + (a.size + b.size + 1) = f + a.size + b.size + 1 by omega] at this
    exact this
  have hst := stepGo (m := m2) hx k2.at_ hc (by rw [hg]; exact give_one hgl) (by rw [hg]; exact most_one (by omega))
  rw [trNext_same (by simp) (by simp)] at hst
  refine ⟨hs2.set (f + a.size + b.size + 1) (h + 1), max m2 (h + 1), fun q => ?_, ?_, by omega, by simp only [Ex.depth]; omega⟩
  · rw [show q + (a.size + b.size + 1) = (q + 1 + b.size) + a.size by omega, g1, k1, hst, show f + (a.size + b.size + 1) = f + a.size + b.size + 1 by omega]
  · rw [show f + (a.size + b.size + 1) = f + a.size + b.size + 1 by omega]
    exact (g2.trans k2 (by omega) (by omega)).set (by omega) (by omega) (by rw [k2.len, g2.len]; omega)

set_option maxHeartbeats 2000000 in
theorem run_tri {l : List Term} {v : Int} (hl : l.length ≤ 1024) (t : Term) (a b c : Ex) (iha : RunOk l v a) (ihb : RunOk l v b) (ihc : RunOk l v c) : RunOk l v (.tri t a b c) := by
  intro f hs tr most h r hok harg hin hnest hdep hd hp
  obtain ⟨ha, hoka, hokb, hokc⟩ := hok
  have harga : ∀ t ∈ a.terms, argF t v = true := fun u hu => harg u (by simp [Ex.terms, hu])
  have hargb : ∀ t ∈ b.terms, argF t v = true := fun u hu => harg u (by simp [Ex.terms, hu])
  have hargc : ∀ t ∈ c.terms, argF t v = true := fun u hu => harg u (by simp [Ex.terms, hu])
  have hpa := a.size_pos
  have hpb := b.size_pos
  have hpc := c.size_pos
  have hdb := b.depth_pos
  have hdc := c.depth_pos
  have hda := a.depth_pos
  simp only [Ex.depth] at hdep
  simp only [Ex.nest] at hnest
  obtain ⟨hia, hib, hic⟩ := hin
  have hsz : (Ex.tri t a b c).size = a.size + b.size + c.size + 2 := rfl
  obtain ⟨p, hpp⟩ : ∃ p, f + a.size = p := ⟨_, rfl⟩
  obtain ⟨q', hqq⟩ : ∃ q', p + 1 + b.size = q' := ⟨_, rfl⟩
  obtain ⟨e, hee⟩ : ∃ e, q' + 1 + c.size = e := ⟨_, rfl⟩
  have hcd : (Ex.tri t a b c).code f = a.code f ++ [⟨7, ((q' + 1 : Nat) : Int)⟩] ++ b.code (p + 1) ++ [⟨8, (e : Int)⟩] ++ c.code (q' + 1) := by
    subst hee; subst hqq; subst hpp; rfl
  have hfe : f + (Ex.tri t a b c).size = e := by rw [hsz]; omega
  rw [hfe] at hp ⊢
  rw [hcd] at hd
  simp only [List.append_assoc, List.cons_append, List.nil_append] at hd
  have hinb := hp.inn
  have heln := hp.el
  have hlen := hp.len
  have h0 := hp.h0
  obtain ⟨hs1, m1, g1, g2, g3, g4⟩ := iha f hs tr most h _ hoka harga hia (by omega) (by omega) hd ⟨hlen, by omega, by omega, hp.now, h0, fun j h1 h2 => hp.free j h1 (by omega), .inl (hp.free _ (by omega) (by omega)), by omega⟩
  rw [hpp] at g1 g2
  have hd2 := drop_of_drop hd (a.code_length f)
  rw [hpp] at hd2
  obtain ⟨hx, hd3, hpl⟩ := ins_of_drop hd2
  have hc : checksF l v tr (p : Int) ⟨7, ((q' + 1 : Nat) : Int)⟩ (h + 1) = true := by
    refine checks_mk (by omega) (known_mk (lo := 0) (hi := 1024) 7 rfl (by omega) (by omega) (by simp) rfl rfl (by omega) (by omega)) (by simp [needsF]) (by simp [wantsF]; omega) (each_skip (by simp)) (next_skip (by simp)) ?_
    have hd3' : l.drop (p + 1) = (b.code (p + 1) ++ [⟨8, (e : Int)⟩]) ++ (c.code (q' + 1) ++ r) := by rw [hd3]; simp
    refine jump_over hd3' (by simp [Ex.code_length]; omega) (by omega) ?_
    intro z hz h9
    rcases List.mem_append.1 hz with e1 | e1
    · have := code_loops b _ z e1 h9; omega
    · simp at e1; subst e1; simp at h9
  have hg : giftsF ⟨7, ((q' + 1 : Nat) : Int)⟩ (p : Int) (h + 1) = [⟨((p + 1 : Nat) : Int), h⟩, ⟨((q' + 1 : Nat) : Int), h⟩] := by simp [giftsF] <;> omega
  have hp1 : p + 1 < hs1.length := by rw [g2.len]; omega
  have hq1 : q' + 1 < hs1.length := by rw [g2.len]; omega
  have hst := stepGo (m := m1) hx g2.at_ hc (by rw [hg]; exact give_two hp1 (by omega) (.inl (by rw [g2.high _ (by omega)]; exact hp.free _ (by omega) (by omega))) (.inl (by rw [g2.high _ (by omega)]; exact hp.free _ (by omega) (by omega)))) (by rw [hg]; exact most_two (by omega) (by omega))
  rw [trNext_same (by simp) (by simp)] at hst
  have hig : ∀ j : Nat, ig ((hs1.set (p + 1) h).set (q' + 1) h) (j : Int) = if j = q' + 1 then h else if j = p + 1 then h else ig hs1 (j : Int) := by
    intro j
    rw [ig_set (by rw [List.length_set]; exact hq1), ig_set hp1]
  obtain ⟨hs2, m2, k1, k2, k3, k4⟩ := ihb (p + 1) ((hs1.set (p + 1) h).set (q' + 1) h) tr (max (max m1 h) h) h _ hokb hargb hib (by omega) (by omega) hd3
    ⟨by simp [g2.len]; exact hlen, by omega, by omega, by rw [hig, if_neg (by omega), if_pos rfl], h0, fun j h1 h2 => by rw [hig, if_neg (by omega), if_neg (by omega), g2.high j (by omega)]; exact hp.free j (by omega) (by omega), .inl (by rw [hig, if_neg (by omega), if_neg (by omega), g2.high _ (by omega)]; exact hp.free _ (by omega) (by omega)), by omega⟩
  rw [hqq] at k1 k2
  have hd4 := drop_of_drop hd3 (b.code_length (p + 1))
  rw [hqq] at hd4
  obtain ⟨hx2, hd5, hql⟩ := ins_of_drop hd4
  have hc2 : checksF l v tr (q' : Int) ⟨8, (e : Int)⟩ (h + 1) = true := by
    refine checks_mk (by omega) (known_mk (lo := 0) (hi := 1024) 8 rfl (by omega) (by omega) (by simp) rfl rfl (by omega) (by omega)) (by simp [needsF]) (by simp [wantsF]; omega) (each_skip (by simp)) (next_skip (by simp)) ?_
    refine jump_over hd5 (by rw [Ex.code_length]; omega) (by omega) ?_
    intro z hz h9
    have := code_loops c _ z hz h9; omega
  have hg2 : giftsF ⟨8, (e : Int)⟩ (q' : Int) (h + 1) = [⟨(e : Int), h + 1⟩] := by simp [giftsF]
  have hlen2 : hs2.length = hs.length := by rw [k2.len]; simp [g2.len]
  have hgl : ig hs2 (e : Int) = -1 ∨ ig hs2 (e : Int) = h + 1 := by
    rw [k2.high _ (by omega), hig, if_neg (by omega), if_neg (by omega), g2.high _ (by omega)]; exact hp.goal
  have hst2 := stepGo (m := m2) hx2 k2.at_ hc2 (by rw [hg2]; exact give_one hgl) (by rw [hg2]; exact most_one (by omega))
  rw [trNext_same (by simp) (by simp)] at hst2
  have hel : e < hs2.length := by omega
  have hig2 : ∀ j : Nat, q' < j → ig (hs2.set e (h + 1)) (j : Int) = if j = e then h + 1 else if j = q' + 1 then h else ig hs (j : Int) := by
    intro j hj
    rw [ig_set hel]
    by_cases h1 : j = e
    · rw [if_pos h1, if_pos h1]
    · rw [if_neg h1, if_neg h1, k2.high j hj, hig, if_neg (show ¬ j = p + 1 by omega), g2.high j (by omega)]
  obtain ⟨hs3, m3, n1, n2, n3, n4⟩ := ihc (q' + 1) (hs2.set e (h + 1)) tr (max m2 (h + 1)) h _ hokc hargc hic (by omega) (by omega) hd5
    ⟨by rw [List.length_set]; omega, by omega, by omega, by rw [hig2 _ (by omega), if_neg (by omega), if_pos rfl], h0, fun j h1 h2 => by rw [hig2 _ (by omega), if_neg (by omega), if_neg (by omega)]; exact hp.free j (by omega) (by omega), .inr (by rw [hee, hig2 _ (by omega), if_pos rfl]), by omega⟩
  rw [hee] at n1 n2
  refine ⟨hs3, m3, fun q => ?_, ⟨by rw [n2.len, List.length_set, hlen2], fun j hj => ?_, fun j hj => ?_, n2.at_⟩, by omega, by simp only [Ex.depth]; omega⟩
  · rw [show q + (Ex.tri t a b c).size = (((q + c.size) + 1 + b.size) + 1) + a.size by rw [hsz]; omega, g1, hst, k1, hst2, n1]
  · rw [n2.low j (by omega), ig_set hel, if_neg (by omega), k2.low j (by omega), hig, if_neg (by omega), if_neg (by omega), g2.low j hj]
  · rw [n2.high j hj, hig2 j (by omega), if_neg (by omega), if_neg (by omega)]

theorem run_code {l : List Term} {v : Int} (hl : l.length ≤ 1024) (y : Ex) : RunOk l v y := by
  induction y with
  | leaf t => exact run_leaf t
  | un t a ih => exact run_un hl t a ih
  | bin t a b iha ihb => exact run_bin t a b iha ihb
  | tri t a b c iha ihb ihc => exact run_tri hl t a b c iha ihb ihc

/-- P12.3 for compiled expressions. -/
theorem verify_code {x : Ex} {v : Int} (hv : 0 ≤ v) (hok : x.ok) (harg : ∀ t ∈ x.terms, argF t v = true) (hin : x.inside false) (hnest : x.nest ≤ 2) (hdep : x.depth ≤ 24) (hsz : x.size ≤ 1024) :
    ∃ h, verifyF (x.code 0) v = (h, 0, 0) ∧ 1 ≤ h ∧ h ≤ x.depth := by
  have hlen : (x.code 0).length = x.size := x.code_length 0
  have hpos := x.size_pos
  have hdp := x.depth_pos
  have hig : ∀ j : Nat, 0 < j → j ≤ x.size → ig (0 :: List.replicate x.size (-1)) (j : Int) = -1 := by
    intro j h1 h2
    obtain ⟨k, rfl⟩ : ∃ k, j = k + 1 := ⟨j - 1, by omega⟩
    unfold ig
    rw [Int.toNat_natCast, List.getD_cons_succ, List.getD_eq_getElem?_getD, List.getElem?_replicate, if_pos (by omega)]
    rfl
  obtain ⟨hs', m, g1, g2, g3, g4⟩ := run_code (v := v) (by rw [hlen]; exact hsz) x 0 (0 :: List.replicate x.size (-1)) [] 0 0 [] hok harg (by simpa using hin) (by simpa using hnest) (by omega) (by simp)
    ⟨by simp [hlen], by omega, by omega, rfl, by omega, fun j h1 h2 => hig j h1 (by omega), .inl (hig _ (by omega) (by omega)), by simp [innerF, hlen]⟩
  refine ⟨m, ?_, by omega, by omega⟩
  unfold verifyF
  rw [if_neg (by rw [hlen]; omega), Int.max_eq_left hv, hlen]
  have := g1 0
  rw [Nat.zero_add] at this
  rw [this]
  have h1 := g2.at_
  simp only [verGo]
  rw [hlen, show (x.size : Int) = ((0 + x.size : Nat) : Int) by omega, h1]
  simp

end Go.Proofs.Ytnhhedecaejgcaa
