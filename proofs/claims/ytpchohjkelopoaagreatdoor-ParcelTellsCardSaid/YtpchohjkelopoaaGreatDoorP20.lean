/- Lemmas for the claim (texts Pw1, what its proof uses of them). -/
import Derived.Test.YtpchohjkelopoaaGreatDoorP07
set_option linter.unusedSimpArgs false
set_option linter.unusedVariables false
namespace Go.Proofs.YtpchohjkelopoaaGreatDoor
open Go.RowKit
theorem zag_zig (i : Int) : zagZ ((zigZ i).toNat : Nat) = i := by
  unfold zagZ zigZ
  split
  · split <;> omega
  · split <;> omega
theorem ba_empty {s : ByteArray} (h : s.size = 0) : s = ⟨#[]⟩ := ByteArray.ext (Array.eq_empty_of_size_eq_zero h)
theorem ba_back (s : ByteArray) : (⟨s.data.toList.toArray⟩ : ByteArray) = s := by
  apply ByteArray.ext; simp
theorem cutT_put (t tl : List UInt8) (h : t.length ≤ 255) : cutT (putB t.length ++ (t ++ tl)) = (t, (putB t.length).length + t.length, 0) := by
  have hg := cutG_put t.length t.length 0 0 (t ++ tl) (Nat.le_refl _) (by omega) (by omega) (by omega)
  simp only [Nat.zero_add, Nat.pow_zero, Nat.mul_one] at hg
  unfold cutT
  rw [hg]
  simp only [ne_eq, not_true_eq_false, if_false]
  rw [if_neg (by omega), if_neg (by simp)]
  simp
theorem valC_enc (k i : Int) (s : ByteArray) (h : mayB k i s = true) (h0 : -9223372036854775808 ≤ i) (h1 : i ≤ 9223372036854775807) (tl : List UInt8) :
    valC (encB k i s ++ tl) = (⟨k, i, s⟩, (encB k i s).length, 0) := by
  rcases may_cases h with ⟨rfl, rfl, h2⟩ | ⟨rfl, a, b, h2⟩ | ⟨rfl, h2⟩ | ⟨rfl, rfl, h2⟩
  · rw [ba_empty h2]; rfl
  · rw [ba_empty h2]
    have hi : i = 0 ∨ i = 1 := by omega
    rcases hi with rfl | rfl <;> rfl
  · rw [ba_empty h2]
    have hz := zigZ_bd i h0 h1
    have hg := cutG_put (zigZ i).toNat (zigZ i).toNat 0 0 tl (Nat.le_refl _) (by omega) (by omega) (by omega)
    simp only [Nat.zero_add, Nat.pow_zero, Nat.mul_one] at hg
    have e : encB 2 i ⟨#[]⟩ = 2 :: putB (zigZ i).toNat := by simp [encB]
    rw [e]
    simp only [List.cons_append, valC]
    rw [hg]
    dsimp only
    rw [zag_zig]
    have a1 : (2 : UInt8).toNat = 2 := rfl
    simp [a1]
    omega
  · have e : encB 3 0 s = 3 :: (putB s.size ++ s.data.toList) := by simp [encB]
    have hl : s.data.toList.length = s.size := by simp
    have hg := cutT_put s.data.toList tl (by omega)
    rw [hl] at hg
    rw [e]
    simp only [List.cons_append, valC, List.append_assoc]
    rw [hg]
    dsimp only
    rw [hl, if_neg (show ¬ 64 < s.size by omega), ba_back]
    have a1 : (3 : UInt8).toNat = 3 := rfl
    simp [a1]
    omega
theorem mayI_four {x : It} (h : mayI x = true) : keyB x.k = true ∧ mayB x.vk x.vi x.vs = true ∧ 0 ≤ x.ver ∧ x.ver ≤ 2147483647 := by
  unfold mayI at h
  simp only [Bool.and_eq_true, decide_eq_true_eq] at h
  exact ⟨h.1.1.1.1, h.1.1.1.2, h.1.2, h.2⟩
theorem itemF_back (x : It) (ho : ItOk x) (hm : mayI x = true) (tl : List UInt8) : itemF (-1) (itB x ++ tl) = (x, (itB x).length, 0) := by
  obtain ⟨_, hv, h0, h1⟩ := mayI_four hm
  have hk := ho.k
  have e1 := cutT_put x.k.data.toList (encB x.vk x.vi x.vs ++ (putB x.ver.toNat ++ tl)) (by rw [ba_len]; exact hk)
  rw [ba_len] at e1
  have e0 : itB x ++ tl = putB x.k.size ++ (x.k.data.toList ++ (encB x.vk x.vi x.vs ++ (putB x.ver.toNat ++ tl))) := by
    unfold itB; simp only [List.append_assoc]
  have d1 : (itB x ++ tl).drop ((putB x.k.size).length + x.k.size) = encB x.vk x.vi x.vs ++ (putB x.ver.toNat ++ tl) := by
    rw [e0, ← List.append_assoc]
    exact List.drop_left' (by rw [List.length_append, ba_len])
  have e2 := valC_enc x.vk x.vi x.vs hv ho.vi.1 ho.vi.2 (putB x.ver.toNat ++ tl)
  have d2 : (itB x ++ tl).drop ((putB x.k.size).length + x.k.size + (encB x.vk x.vi x.vs).length) = putB x.ver.toNat ++ tl := by
    rw [← List.drop_drop, d1]
    exact List.drop_left' rfl
  have e3 := cutG_put x.ver.toNat x.ver.toNat 0 0 tl (Nat.le_refl _) (by omega) (by omega) (by omega)
  simp only [Nat.zero_add, Nat.pow_zero, Nat.mul_one] at e3
  rw [← e0] at e1
  rw [itemF_ok (v := ⟨x.vk, x.vi, x.vs⟩) e1 (by rw [d1]; exact e2) (by rw [d2]; exact e3)]
  rw [if_neg (show ¬ 2147483647 < x.ver.toNat by omega), ba_back, show ((x.ver.toNat : Nat) : Int) = x.ver by omega]
  have hl : (itB x).length = (putB x.k.size).length + x.k.size + (encB x.vk x.vi x.vs).length + (putB x.ver.toNat).length := by
    unfold itB; simp only [List.length_append, ba_len]
  rw [hl]
theorem itemsF_back : ∀ (l : List It) (tl : List UInt8), (∀ x ∈ l, ItOk x) → (∀ x ∈ l, mayI x = true) → itemsF (-1) l.length (l.flatMap itB ++ tl) = (l, tl, 0)
  | [], tl, _, _ => rfl
  | x :: l, tl, ho, hm => by
    have ih := itemsF_back l tl (fun y hy => ho y (by simp [hy])) (fun y hy => hm y (by simp [hy]))
    have e := itemF_back x (ho x (by simp)) (hm x (by simp)) (l.flatMap itB ++ tl)
    have e0 : (x :: l).flatMap itB ++ tl = itB x ++ (l.flatMap itB ++ tl) := by simp
    rw [e0, List.length_cons]
    unfold itemsF
    rw [e]
    dsimp only
    rw [List.drop_left' rfl, ih]
    simp
theorem chkF_ord : ∀ (l : List It) (p : Option It) (i : Nat), (chkF p i l).1 = 0 → ordB l = true ∧ ∀ y, p = some y → ∀ x, l.head? = some x → ltB y.k x.k = true
  | [], _, _, _ => ⟨rfl, fun _ _ x hx => by simp at hx⟩
  | x :: l, none, i, h => by
    unfold chkF at h
    split at h
    · simp at h
    · obtain ⟨h1, h2⟩ := chkF_ord l (some x) (i + 1) h
      refine ⟨?_, fun y hy => by cases hy⟩
      cases l with
      | nil => rfl
      | cons z l => simp only [ordB, Bool.and_eq_true]; exact ⟨h2 x rfl z rfl, h1⟩
  | x :: l, some z, i, h => by
    unfold chkF at h
    split at h
    · simp at h
    · split at h
      · simp at h
      · next hlt =>
        obtain ⟨h1, h2⟩ := chkF_ord l (some x) (i + 1) h
        refine ⟨?_, fun y hy u hu => ?_⟩
        · cases l with
          | nil => rfl
          | cons u l => simp only [ordB, Bool.and_eq_true]; exact ⟨h2 x rfl u rfl, h1⟩
        · obtain rfl := Option.some.inj hy
          obtain rfl := Option.some.inj hu
          simpa using hlt
theorem leafB_ord {l : List It} (h : leafB l = true) : ordB l = true := by
  unfold leafB leafF at h
  split at h
  · simp at h
  · exact (chkF_ord l none 0 (by simpa using h)).1
theorem ordB_drop : ∀ (k : Nat) (l : List It), ordB l = true → ordB (l.drop k) = true
  | 0, l, h => h
  | k + 1, [], h => rfl
  | k + 1, [x], h => by simp [ordB]
  | k + 1, x :: y :: l, h => by
    simp only [ordB, Bool.and_eq_true] at h
    simpa using ordB_drop k (y :: l) h.2
theorem cutF_back {l : List It} (ho : ∀ x ∈ l, ItOk x) (hl : leafB l = true) (j : Nat) (hj : 8 * j < l.length) : cutF (-1) (chunkN l j) = ((l.drop (8 * j)).take 8, 0) := by
  have hm := (leafB_may hl).2
  have hn : ((l.drop (8 * j)).take 8).length = min 8 (l.length - 8 * j) := by rw [List.length_take, List.length_drop]
  have hsub : ∀ x, x ∈ (l.drop (8 * j)).take 8 → x ∈ l := fun x hx => List.mem_of_mem_drop (List.mem_of_mem_take hx)
  have hb := itemsF_back ((l.drop (8 * j)).take 8) [] (fun x hx => ho x (hsub x hx)) (fun x hx => hm x (hsub x hx))
  rw [List.append_nil, hn] at hb
  have hc : (UInt8.ofNat (min 8 (l.length - 8 * j))).toNat = min 8 (l.length - 8 * j) := by simp; omega
  unfold chunkN
  rw [cutF_items (q := ((l.drop (8 * j)).take 8, [], 0)) (by rw [hc]; exact hb)]
  dsimp only
  rw [if_neg (by simp), if_neg (by rw [List.all_eq_true.2 (fun x hx => hm x (hsub x hx))]; simp), if_neg (by rw [ordB_pre _ 8 (ordB_drop (8 * j) l (leafB_ord hl))]; simp), if_neg (by rw [hn]; omega), if_neg (by simp)]
theorem chunks_at {l : List It} {j : Nat} {d : List UInt8} (h : (chunksF l)[j]? = some d) : 8 * j < l.length ∧ d = chunkN l j := by
  unfold chunksF at h
  rw [List.getElem?_map] at h
  obtain ⟨i, hi, rfl⟩ := Option.map_eq_some_iff.1 h
  obtain ⟨hlt, he⟩ := List.getElem?_eq_some_iff.1 hi
  simp at hlt he
  subst he
  exact ⟨by omega, rfl⟩
theorem itsOf_range {l : List It} (ho : ∀ x ∈ l, ItOk x) (hl : leafB l = true) : ∀ k, k ≤ (l.length + 7) / 8 → itsOf ((List.range k).map (chunkN l)) = l.take (8 * k)
  | 0, _ => by simp [itsOf]
  | k + 1, hk => by
    have ih := itsOf_range ho hl k (by omega)
    rw [range_snoc]
    have e : itsOf ((List.range k).map (chunkN l) ++ [chunkN l k]) = itsOf ((List.range k).map (chunkN l)) ++ (cutF (-1) (chunkN l k)).1 := by unfold itsOf; simp
    rw [e, ih, cutF_back ho hl k (by omega)]
    dsimp only
    rw [show 8 * (k + 1) = 8 * k + 8 by omega, List.take_add]
/-- the leaf of a leaf's chunks is that leaf -/
theorem leafOfF_chunks {l : List It} (ho : ∀ x ∈ l, ItOk x) (hl : leafB l = true) : leafOfF (chunksF l) = (l, 0, 0) := by
  have hok : ∀ (j : Nat) d, (chunksF l)[j]? = some d → (cutF (-1) d).2 = 0 := fun j d hd => by
    obtain ⟨h1, rfl⟩ := chunks_at hd
    rw [cutF_back ho hl j h1]
  have hlen : (chunksF l).length = (l.length + 7) / 8 := by unfold chunksF; simp
  rw [leafOfF_ok hlen (fun j d _ hd => hok j d hd)]
  have hs : shN (lenAt (chunksF l)) ((l.length + 7) / 8) ((l.length + 7) / 8) = -1 := by
    apply shN_none
    intro j hj
    obtain ⟨d, hd⟩ : ∃ d, (chunksF l)[j]? = some d := ⟨_, List.getElem?_eq_getElem (by omega)⟩
    rw [lenAt_some hd]
    obtain ⟨h1, rfl⟩ := chunks_at hd
    rw [cutF_back ho hl j h1]
    simp only [List.length_take, List.length_drop]
    omega
  have hi : itsOf (chunksF l) = l := by
    unfold chunksF
    rw [itsOf_range ho hl _ (Nat.le_refl _)]
    exact List.take_of_length_le (by omega)
  rw [hs, if_neg (by omega), hi, if_neg]
  unfold leafB at hl
  simpa using hl
end Go.Proofs.YtpchohjkelopoaaGreatDoor
