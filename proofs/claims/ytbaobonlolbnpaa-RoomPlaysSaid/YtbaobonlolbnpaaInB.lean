/- a house's order is kept by every call; no program in sight. -/
import Derived.Test.YtbaobonlolbnpaaInA
namespace Go.Proofs.Ytbaobonlolbnpaa
open Go.RowKit
set_option linter.unusedSimpArgs false

theorem word_size {s : ByteArray} (h : wordB s 1 32 = true) : s.size ≤ maxLen := by
  unfold wordB at h
  simp only [Bool.and_eq_true, decide_eq_true_eq] at h
  have := h.2
  unfold maxLen
  omega
theorem cnt_same {L : List ByteArray} {r s : ByteArray} (h : r.toList = s.toList) : cnt L r = cnt L s := by unfold cnt; rw [h]
theorem inRoom_same {h : Ho} {r s : ByteArray} (e : r.toList = s.toList) (t : Trk) : inRoom h r t = inRoom h s t := by unfold inRoom; rw [e]
theorem cnt_zero {L : List ByteArray} {s : ByteArray} (h : L.any (fun y => y.toList == s.toList) = false) : cnt L s = 0 := by
  unfold cnt
  rw [List.filter_eq_nil_iff.2 (fun x hx => by have := List.any_eq_false.1 h x hx; exact this)]
  rfl
theorem Inv.join {h : Ho} (i : Inv h) (room user : ByteArray) (til rights : Int) : Inv (joinS h room user til rights).1 := by
  unfold joinS
  by_cases h1 : wordB room 1 32 = false ∨ wordB user 1 32 = false ∨ rights < 0 ∨ 7 < rights
  · rw [if_pos h1]; exact i
  rw [if_neg h1]
  by_cases h2 : h.ms.any (fun m => m.room.toList == room.toList && m.user.toList == user.toList) = true
  · rw [if_pos h2]; exact i
  rw [if_neg h2]
  by_cases h3 : cnt (roomsL h.ms) room = 8 ∨ cnt (roomsL h.ms) room = 0 ∧ (dist (roomsL h.ms)).length = 4
  · rw [if_pos h3]; exact i
  rw [if_neg h3]
  have hw : wordB room 1 32 = true := by
    cases e : wordB room 1 32
    · exact absurd (.inl e) h1
    · rfl
  have hr0 : 0 ≤ rights := by
    apply Classical.byContradiction
    intro hx
    exact h1 (.inr (.inr (.inl (by omega))))
  have hr7 : rights ≤ 7 := by
    apply Classical.byContradiction
    intro hx
    exact h1 (.inr (.inr (.inr (by omega))))
  have hm : ∀ id m, mem? h id = some m → mem? { h with ms := h.ms ++ [⟨h.lm + 1, room, user, til, rights⟩], lm := h.lm + 1 } id = some m := fun id m hf => find_app hf
  have htr : ∀ r, tracksS { h with ms := h.ms ++ [⟨h.lm + 1, room, user, til, rights⟩], lm := h.lm + 1 } r = tracksS h r := fun r => by
    unfold tracksS
    refine List.filter_congr (fun t ht => ?_)
    obtain ⟨m, hm1, _⟩ := i.tm t ht
    unfold inRoom
    rw [hm1, hm _ _ hm1]
  have hnew : ∀ m ∈ h.ms ++ [(⟨h.lm + 1, room, user, til, rights⟩ : Mem)], m ∈ h.ms ∨ m = ⟨h.lm + 1, room, user, til, rights⟩ := fun m hm => by
    rcases List.mem_append.1 hm with h | h
    · exact .inl h
    · exact .inr (by simpa using h)
  exact {
    lm0 := by have := i.lm0; show 0 ≤ h.lm + 1; omega
    li0 := i.li0
    mlt := fun m hm => by
      rcases hnew m hm with h1 | rfl
      · have := i.mlt m h1; show m.id ≤ h.lm + 1; omega
      · exact Int.le_refl _
    mnd := by
      show ((h.ms ++ [(⟨h.lm + 1, room, user, til, rights⟩ : Mem)]).map (·.id)).Nodup
      rw [List.map_append]
      refine List.nodup_append.2 ⟨i.mnd, by simp, fun a ha b hb => ?_⟩
      obtain ⟨m, hm, rfl⟩ := List.mem_map.1 ha
      simp only [List.map_cons, List.map_nil, List.mem_singleton] at hb
      have := i.mlt m hm
      omega
    tlt := i.tlt
    tnd := i.tnd
    rig := fun m hm => by
      rcases hnew m hm with h1 | rfl
      · exact i.rig m h1
      · exact ⟨hr0, hr7⟩
    rsz := fun m hm => by
      rcases hnew m hm with h1 | rfl
      · exact i.rsz m h1
      · exact word_size hw
    tm := fun t ht => by
      obtain ⟨m, hm1, hm2⟩ := i.tm t ht
      exact ⟨m, hm _ _ hm1, hm2⟩
    sm := fun s hs => by
      obtain ⟨m, t, mt, e1, e2, e3, r⟩ := i.sm s hs
      exact ⟨m, t, mt, hm _ _ e1, e2, hm _ _ e3, r⟩
    c8 := fun r => by
      show cnt (roomsL (h.ms ++ [_])) r ≤ 8
      rw [roomsL_snoc, cnt_cons]
      have h8 := i.c8 r
      split
      · rename_i he
        have e : room.toList = r.toList := by simpa using he
        rw [← cnt_same e] at h8 ⊢
        have : cnt (roomsL h.ms) room ≠ 8 := fun e => h3 (.inl e)
        omega
      · omega
    d4 := by
      show (dist (roomsL (h.ms ++ [_]))).length ≤ 4
      rw [roomsL_snoc]
      have h4 := i.d4
      simp only [dist]
      split
      · exact h4
      · rename_i hn
        have h0 := cnt_zero (L := roomsL h.ms) (s := room) (by simpa using hn)
        have : (dist (roomsL h.ms)).length ≠ 4 := fun e => h3 (.inr ⟨h0, e⟩)
        rw [List.length_cons]
        omega
    t8 := fun r => by rw [htr]; exact i.t8 r
    s16 := i.s16
    sun := i.sun }
theorem Inv.publish {h : Ho} (i : Inv h) (id : Int) (mid : ByteArray) (kind : Int) : Inv (publishS h id mid kind).1 := by
  unfold publishS
  cases hf : mem? h id with
  | none => exact i
  | some m =>
    dsimp only
    by_cases h1 : m.rights % 2 = 0
    · rw [if_pos h1]; exact i
    rw [if_neg h1]
    by_cases h2 : wordB mid 1 32 = false ∨ (kind ≠ 1 ∧ kind ≠ 2)
    · rw [if_pos h2]; exact i
    rw [if_neg h2]
    by_cases h3 : h.ts.any (fun t => t.member == id && t.mid.toList == mid.toList) = true
    · rw [if_pos h3]; exact i
    rw [if_neg h3]
    by_cases h4 : (tracksS h m.room).length = 8
    · rw [if_pos h4]; exact i
    rw [if_neg h4]
    have hnew : ∀ t ∈ h.ts ++ [(⟨h.li + 1, id, mid, kind⟩ : Trk)], t ∈ h.ts ∨ t = ⟨h.li + 1, id, mid, kind⟩ := fun m hm => by
      rcases List.mem_append.1 hm with h | h
      · exact .inl h
      · exact .inr (by simpa using h)
    exact {
      lm0 := i.lm0
      li0 := by have := i.li0; show 0 ≤ h.li + 1; omega
      mlt := i.mlt
      mnd := i.mnd
      tlt := fun t ht => by
        rcases hnew t ht with h1 | rfl
        · have := i.tlt t h1; show t.id ≤ h.li + 1; omega
        · exact Int.le_refl _
      tnd := by
        show ((h.ts ++ [(⟨h.li + 1, id, mid, kind⟩ : Trk)]).map (·.id)).Nodup
        rw [List.map_append]
        refine List.nodup_append.2 ⟨i.tnd, by simp, fun a ha b hb => ?_⟩
        obtain ⟨m, hm, rfl⟩ := List.mem_map.1 ha
        simp only [List.map_cons, List.map_nil, List.mem_singleton] at hb
        have := i.tlt m hm
        omega
      rig := i.rig
      rsz := i.rsz
      tm := fun t ht => by
        rcases hnew t ht with h5 | rfl
        · exact i.tm t h5
        · exact ⟨m, hf, by omega⟩
      sm := fun s hs => by
        obtain ⟨m, t, mt, e1, e2, e3, r⟩ := i.sm s hs
        exact ⟨m, t, mt, e1, find_app e2, e3, r⟩
      c8 := i.c8
      d4 := i.d4
      t8 := fun r => by
        show ((h.ts ++ [(⟨h.li + 1, id, mid, kind⟩ : Trk)]).filter (inRoom h r)).length ≤ 8
        rw [List.filter_append, List.length_append]
        have h8 : (h.ts.filter (inRoom h r)).length ≤ 8 := i.t8 r
        cases hb : inRoom h r ⟨h.li + 1, id, mid, kind⟩
        · rw [List.filter_cons, if_neg (by rw [hb]; simp)]; simpa using h8
        · have e : m.room.toList = r.toList := by
            unfold inRoom at hb
            rw [show mem? h (⟨h.li + 1, id, mid, kind⟩ : Trk).member = some m from hf] at hb
            simpa using hb
          have h9 : (h.ts.filter (inRoom h r)).length ≠ 8 := fun e8 => h4 (by
            unfold tracksS
            rw [← e8]
            congr 1
            exact List.filter_congr (fun t _ => inRoom_same e t))
          rw [List.filter_cons, if_pos hb]
          simp only [List.filter_nil, List.length_cons, List.length_nil]
          omega
      s16 := i.s16
      sun := i.sun }
theorem Inv.unsub {h : Ho} (i : Inv h) (id track : Int) : Inv (unsubS h id track).1 := by
  unfold unsubS
  split
  · exact i
  · exact { i with
      sm := fun s hs => i.sm s (List.mem_filter.1 hs).1
      s16 := fun id => Nat.le_trans (List.Sublist.length_le ((List.filter_sublist).filter _)) (i.s16 id)
      sun := fun id t => Nat.le_trans (List.Sublist.length_le ((List.filter_sublist).filter _)) (i.sun id t) }
theorem Inv.unpub {h : Ho} (i : Inv h) (id : Int) : Inv (unpubS h id).1 := by
  unfold unpubS
  split
  · exact i
  · exact { i with
      tlt := fun t ht => i.tlt t (List.mem_filter.1 ht).1
      tnd := List.Nodup.sublist ((List.filter_sublist).map _) i.tnd
      tm := fun t ht => i.tm t (List.mem_filter.1 ht).1
      sm := fun s hs => by
        obtain ⟨hs1, hs2⟩ := List.mem_filter.1 hs
        obtain ⟨m, t, mt, e1, e2, e3, r⟩ := i.sm s hs1
        refine ⟨m, t, mt, e1, ?_, e3, r⟩
        unfold trk?
        rw [find_left (fun x _ hx => ?_)]
        · exact e2
        · simp only [beq_iff_eq] at hx
          rw [hx]; exact hs2
      t8 := fun r => Nat.le_trans (List.Sublist.length_le ((List.filter_sublist).filter _)) (i.t8 r)
      s16 := fun id => Nat.le_trans (List.Sublist.length_le ((List.filter_sublist).filter _)) (i.s16 id)
      sun := fun id t => Nat.le_trans (List.Sublist.length_le ((List.filter_sublist).filter _)) (i.sun id t) }
theorem setL_filter {p q : Sb → Bool} {f : Sb → Sb} (hq : ∀ x, q (f x) = q x) : ∀ l : List Sb, ((setL p f l).filter q).length = (l.filter q).length
  | [] => rfl
  | x :: r => by
    unfold setL
    split
    · simp only [List.filter_cons, hq]
      split <;> rfl
    · simp only [List.filter_cons]
      split
      · simp [setL_filter hq r]
      · exact setL_filter hq r
theorem setL_mem {p : Sb → Bool} {f : Sb → Sb} : ∀ {l : List Sb} {x : Sb}, x ∈ setL p f l → x ∈ l ∨ ∃ y ∈ l, x = f y
  | y :: r, x, h => by
    unfold setL at h
    split at h
    · rcases List.mem_cons.1 h with rfl | h
      · exact .inr ⟨y, by simp, rfl⟩
      · exact .inl (by simp [h])
    · rcases List.mem_cons.1 h with rfl | h
      · exact .inl (by simp)
      · rcases setL_mem h with h | ⟨z, hz, e⟩
        · exact .inl (by simp [h])
        · exact .inr ⟨z, by simp [hz], e⟩
theorem Inv.subscribe {h : Ho} (i : Inv h) (id track layer : Int) : Inv (subscribeS h id track layer).1 := by
  unfold subscribeS
  cases hf : mem? h id with
  | none => exact i
  | some m =>
  cases hf3 : trk? h track with
  | none => exact i
  | some t =>
    dsimp only
    by_cases h1 : inRoom h m.room t = false
    · rw [if_pos h1]; exact i
    rw [if_neg h1]
    by_cases h2 : m.rights / 2 % 2 = 0
    · rw [if_pos h2]; exact i
    rw [if_neg h2]
    by_cases h3 : t.member = id ∨ layer < 0 ∨ 3 ≤ layer
    · rw [if_pos h3]; exact i
    rw [if_neg h3]
    have hl0 : 0 ≤ layer := by
      apply Classical.byContradiction; intro hx; exact h3 (.inr (.inl (by omega)))
    have hl2 : layer ≤ 2 := by
      apply Classical.byContradiction; intro hx; exact h3 (.inr (.inr (by omega)))
    by_cases h4 : h.ss.any (fun s => s.member == id && s.track == track) = true
    · rw [if_pos h4]
      exact { i with
        sm := fun s hs => by
          rcases setL_mem hs with h5 | ⟨y, hy, rfl⟩
          · exact i.sm s h5
          · obtain ⟨m, t, mt, e1, e2, e3, e4, e5, e6, _⟩ := i.sm y hy
            exact ⟨m, t, mt, e1, e2, e3, e4, e5, e6, hl0, hl2⟩
        s16 := fun id2 => by
          exact Nat.le_trans (Nat.le_of_eq (setL_filter (q := fun s => s.member == id2) (f := fun s : Sb => { s with layer := layer }) (fun _ => rfl) h.ss)) (i.s16 id2)
        sun := fun id2 t2 => by
          exact Nat.le_trans (Nat.le_of_eq (setL_filter (q := fun s => s.member == id2 && s.track == t2) (f := fun s : Sb => { s with layer := layer }) (fun _ => rfl) h.ss)) (i.sun id2 t2) }
    · rw [if_neg h4]
      by_cases h5 : cntM h.ss id = 16
      · rw [if_pos h5]; exact i
      rw [if_neg h5]
      have hin : inRoom h m.room t = true := by cases e : inRoom h m.room t; exact absurd e h1; rfl
      have htm : t ∈ h.ts := List.mem_of_find?_eq_some hf3
      obtain ⟨mt, hmt, _⟩ := i.tm t htm
      unfold inRoom at hin
      rw [hmt] at hin
      exact { i with
        sm := fun s hs => by
          rcases List.mem_append.1 hs with h6 | h6
          · exact i.sm s h6
          · obtain rfl : s = ⟨id, track, layer⟩ := by simpa using h6
            exact ⟨m, t, mt, hf, hf3, hmt, by simpa using hin, by omega, fun e => h3 (.inl e), hl0, hl2⟩
        s16 := fun id2 => by
          show ((h.ss ++ [(⟨id, track, layer⟩ : Sb)]).filter (fun s => s.member == id2)).length ≤ 16
          rw [List.filter_append, List.length_append]
          have h7 : (h.ss.filter (fun s => s.member == id2)).length ≤ 16 := i.s16 id2
          by_cases e : id = id2
          · subst e
            have h8 : (h.ss.filter (fun s => s.member == id)).length ≠ 16 := h5
            have : ([(⟨id, track, layer⟩ : Sb)].filter (fun s => s.member == id)).length ≤ 1 := List.length_filter_le _ _
            omega
          · rw [show [(⟨id, track, layer⟩ : Sb)].filter (fun s => s.member == id2) = [] from List.filter_eq_nil_iff.2 (fun x hx => by simp at hx; subst hx; simpa using e)]
            simpa using h7
        sun := fun id2 t2 => by
          show ((h.ss ++ [(⟨id, track, layer⟩ : Sb)]).filter (fun s => s.member == id2 && s.track == t2)).length ≤ 1
          rw [List.filter_append, List.length_append]
          have h7 := i.sun id2 t2
          by_cases e : id = id2 ∧ track = t2
          · obtain ⟨e1, e2⟩ := e
            subst e1; subst e2
            have h8 : h.ss.filter (fun s => s.member == id && s.track == track) = [] := List.filter_eq_nil_iff.2 (fun x hx hp => h4 (List.any_eq_true.2 ⟨x, hx, hp⟩))
            rw [h8]
            have h9 := List.length_filter_le (fun s : Sb => s.member == id && s.track == track) [⟨id, track, layer⟩]
            rw [List.length_nil, Nat.zero_add]
            exact h9
          · rw [show [(⟨id, track, layer⟩ : Sb)].filter (fun s => s.member == id2 && s.track == t2) = [] from List.filter_eq_nil_iff.2 (fun x hx => by simp at hx; subst hx; simpa using e)]
            simpa using h7 }
theorem nodup_inj {α : Type} {key : α → Int} {l : List α} (hn : (l.map key).Nodup) {x y : α} (hx : x ∈ l) (hy : y ∈ l) (e : key x = key y) : x = y := by
  obtain ⟨a, ha, rfl⟩ := List.getElem_of_mem hx
  obtain ⟨b, hb, rfl⟩ := List.getElem_of_mem hy
  have hij : (l.map key)[a]'(by simpa using ha) = (l.map key)[b]'(by simpa using hb) := by
    rw [List.getElem_map, List.getElem_map]; exact e
  have := (List.getElem_inj hn).1 hij
  subst this
  rfl
theorem Inv.leave {h : Ho} (i : Inv h) (id : Int) : Inv (leaveS h id).1 := by
  unfold leaveS
  split
  · exact i
  · have hmeq : ∀ x, x ≠ id → mem? { h with ss := h.ss.filter (fun s => !(s.member == id || ownerS h s.track == id)), ts := h.ts.filter (fun t => !(t.member == id)), ms := h.ms.filter (fun m => !(m.id == id)) } x = mem? h x := fun x hx => by
      unfold mem?
      refine find_left (fun y _ hy => ?_)
      simp only [beq_iff_eq] at hy
      rw [hy]; simpa using hx
    have hm : ∀ x m, x ≠ id → mem? h x = some m → mem? { h with ss := h.ss.filter (fun s => !(s.member == id || ownerS h s.track == id)), ts := h.ts.filter (fun t => !(t.member == id)), ms := h.ms.filter (fun m => !(m.id == id)) } x = some m := fun x m hx hf => (hmeq x hx).trans hf
    exact {
      lm0 := i.lm0
      li0 := i.li0
      mlt := fun m hm => i.mlt m (List.mem_filter.1 hm).1
      mnd := List.Nodup.sublist ((List.filter_sublist).map _) i.mnd
      tlt := fun t ht => i.tlt t (List.mem_filter.1 ht).1
      tnd := List.Nodup.sublist ((List.filter_sublist).map _) i.tnd
      rig := fun m hm => i.rig m (List.mem_filter.1 hm).1
      rsz := fun m hm => i.rsz m (List.mem_filter.1 hm).1
      tm := fun t ht => by
        obtain ⟨h1, h2⟩ := List.mem_filter.1 ht
        obtain ⟨m, e1, e2⟩ := i.tm t h1
        exact ⟨m, hm _ _ (by simpa using h2) e1, e2⟩
      sm := fun s hs => by
        obtain ⟨h1, h2⟩ := List.mem_filter.1 hs
        rw [Bool.not_or, Bool.and_eq_true] at h2
        obtain ⟨m, t, mt, e1, e2, e3, r⟩ := i.sm s h1
        have h3 : t.member ≠ id := by
          have := h2.2
          unfold ownerS at this
          rw [e2] at this
          simpa using this
        refine ⟨m, t, mt, hm _ _ (by simpa using h2.1) e1, ?_, hm _ _ h3 e3, r⟩
        unfold trk?
        rw [find_left (fun y hy hpy => ?_)]
        · exact e2
        · have e4 := List.find?_some e2
          have e5 : y = t := nodup_inj (key := Trk.id) i.tnd hy (List.mem_of_find?_eq_some e2) (by simp only [beq_iff_eq] at hpy e4; rw [hpy, e4])
          rw [e5]; simpa using h3
      c8 := fun r => Nat.le_trans (cnt_sub (roomsL_sub List.filter_sublist) r) (i.c8 r)
      d4 := Nat.le_trans (dist_sub _ _ _ (Nat.le_refl _) (roomsL_sub List.filter_sublist)) i.d4
      t8 := fun r => by
        refine Nat.le_trans ?_ (i.t8 r)
        unfold tracksS
        rw [List.filter_filter, ← List.countP_eq_length_filter, ← List.countP_eq_length_filter]
        refine List.countP_mono_left (fun t _ hp => ?_)
        rw [Bool.and_eq_true] at hp
        have h1 := hp.1
        unfold inRoom at h1 ⊢
        rw [hmeq _ (by simpa using hp.2)] at h1
        exact h1
      s16 := fun id => Nat.le_trans (List.Sublist.length_le ((List.filter_sublist).filter _)) (i.s16 id)
      sun := fun id t => Nat.le_trans (List.Sublist.length_le ((List.filter_sublist).filter _)) (i.sun id t) }
end Go.Proofs.Ytbaobonlolbnpaa
