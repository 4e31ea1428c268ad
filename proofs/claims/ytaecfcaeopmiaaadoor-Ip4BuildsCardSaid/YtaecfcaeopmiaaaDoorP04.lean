/-
  Options of an IPv4 head, on plain lists: what may be read, what is laid, what is carried.
-/
import Derived.Test.YtaecfcaeopmiaaaDoorBase
import Derived.Test.YtaecfcaeopmiaaaDoorZero
namespace Go.Proofs.YtaecfcaeopmiaaaDoor

/-- an option: its kind, its bytes -/
abbrev Opt := Int × List Int

/-- the options that bytes are -/
def parseL : List Int → Option (List Opt)
  | [] => some []
  | k :: r =>
    if k = 0 then (if zerosB r then some [] else none)
    else if k = 1 then (parseL r).map ((1, []) :: ·)
    else match r with
      | [] => none
      | m :: r' => if m < 2 ∨ (r'.length : Int) + 2 < m then none else (parseL (r'.drop (m.toNat - 2))).map ((k, r'.take (m.toNat - 2)) :: ·)
termination_by l => l.length
decreasing_by
  · simp
  · simp; omega

theorem parse_nil : parseL [] = some [] := by rw [parseL.eq_def]
theorem parse_cons (k : Int) (r : List Int) : parseL (k :: r) = if k = 0 then (if zerosB r then some [] else none)
    else if k = 1 then (parseL r).map ((1, []) :: ·)
    else match r with
      | [] => none
      | m :: r' => if m < 2 ∨ (r'.length : Int) + 2 < m then none else (parseL (r'.drop (m.toNat - 2))).map ((k, r'.take (m.toNat - 2)) :: ·) := by rw [parseL.eq_def]
theorem parse_end (l : List Int) : parseL (l.drop l.length) = some [] := by rw [List.drop_length, parse_nil]
theorem drop_cons' {l : List Int} {a : Nat} (h : a < l.length) : l.drop a = gt l a :: l.drop (a + 1) := by
  rw [List.drop_eq_getElem_cons h, gt_eq h]
theorem zerosB_cons (x : Int) (l : List Int) : zerosB (x :: l) = (decide (x = 0) && zerosB l) := by simp [zerosB]
theorem parse_zero {l : List Int} {a : Nat} (h : a < l.length) (h0 : gt l a = 0) : parseL (l.drop a) = if zerosB (l.drop a) then some [] else none := by
  rw [drop_cons' h, parse_cons, h0, if_pos rfl, zerosB_cons]
  simp
theorem parse_one {l : List Int} {a : Nat} (h : a < l.length) (h0 : gt l a = 1) : parseL (l.drop a) = (parseL (l.drop (a + 1))).map ((1, []) :: ·) := by
  rw [drop_cons' h, parse_cons, h0, if_neg (by decide), if_pos rfl]
theorem parse_short {l : List Int} {a : Nat} (h : a < l.length) (h0 : 2 ≤ gt l a) (h1 : l.length ≤ a + 1) : parseL (l.drop a) = none := by
  rw [drop_cons' h, parse_cons, if_neg (by omega), if_neg (by omega)]
  rw [List.drop_of_length_le h1]
theorem parse_bad {l : List Int} {a : Nat} (h : a + 1 < l.length) (h0 : 2 ≤ gt l a) (h1 : gt l (a + 1) < 2 ∨ (l.length : Int) - a < gt l (a + 1)) : parseL (l.drop a) = none := by
  rw [drop_cons' (by omega), drop_cons' h, parse_cons, if_neg (by omega), if_neg (by omega)]
  simp only
  rw [if_pos]
  rcases h1 with h1 | h1
  · exact .inl h1
  · right; simp only [List.length_drop]; omega
theorem parse_opt {l : List Int} {a n : Nat} (h : a + n ≤ l.length) (h0 : 2 ≤ gt l a) (hn : gt l (a + 1) = n) (h2 : 2 ≤ n) :
    parseL (l.drop a) = (parseL (l.drop (a + n))).map ((gt l a, (l.drop (a + 2)).take (n - 2)) :: ·) := by
  rw [drop_cons' (by omega : a < l.length), drop_cons' (by omega : a + 1 < l.length), parse_cons, if_neg (by omega), if_neg (by omega)]
  simp only
  rw [hn, if_neg (by simp only [List.length_drop]; omega), List.drop_drop]
  have e : a + 1 + 1 + ((n : Int).toNat - 2) = a + n := by omega
  have e2 : (n : Int).toNat - 2 = n - 2 := by omega
  rw [e, e2]
theorem parse_byt {l : List Int} (hl : Byt l) : ∀ {os : List Opt}, parseL l = some os → ∀ o ∈ os, 1 ≤ o.1 ∧ o.1 ≤ 255 ∧ Byt o.2 ∧ o.2.length + 2 ≤ 255 ∧ (o.1 = 1 → o.2 = []) := by
  induction h : l.length using Nat.strongRecOn generalizing l with
  | ind n ih =>
    intro os hos o ho
    cases l with
    | nil => rw [parse_nil] at hos; obtain rfl := Option.some.inj hos; cases ho
    | cons k r =>
      rw [parse_cons] at hos
      have hk := hl k (by simp)
      have hr : Byt r := fun x hx => hl x (by simp [hx])
      split at hos
      · split at hos
        · obtain rfl := Option.some.inj hos; cases ho
        · cases hos
      · split at hos
        · obtain ⟨os', h1, h2⟩ := Option.map_eq_some_iff.1 hos
          subst h2
          rcases List.mem_cons.1 ho with rfl | ho'
          · exact ⟨by decide, by decide, Byt.nil, by decide, fun _ => rfl⟩
          · exact ih r.length (by simp at h; omega) hr rfl h1 o ho'
        · rename_i h0 h1
          cases r with
          | nil => cases hos
          | cons m r' =>
            simp only at hos
            split at hos
            · cases hos
            · rename_i hm
              obtain ⟨os', h3, h4⟩ := Option.map_eq_some_iff.1 hos
              subst h4
              have hm2 := hr m (by simp)
              have hr' : Byt r' := fun x hx => hr x (by simp [hx])
              rcases List.mem_cons.1 ho with rfl | ho'
              · refine ⟨by omega, by omega, hr'.take _, ?_, fun e => absurd e h1⟩
                simp only [List.length_take]; omega
              · exact ih (r'.drop (m.toNat - 2)).length (by simp at h ⊢; omega) (hr'.drop _) rfl h3 o ho'

theorem parse_count : ∀ {l : List Int} {os : List Opt}, parseL l = some os → os.length ≤ l.length := by
  intro l
  induction h : l.length using Nat.strongRecOn generalizing l with
  | ind n ih =>
    intro os hos
    cases l with
    | nil => rw [parse_nil] at hos; obtain rfl := Option.some.inj hos; simp
    | cons k r =>
      rw [parse_cons] at hos
      simp only [List.length_cons] at h
      split at hos
      · split at hos
        · obtain rfl := Option.some.inj hos; simp
        · cases hos
      · split at hos
        · obtain ⟨os', h1, h2⟩ := Option.map_eq_some_iff.1 hos
          subst h2
          have := ih r.length (by omega) rfl h1
          simp; omega
        · cases r with
          | nil => cases hos
          | cons m r' =>
            simp only at hos
            split at hos
            · cases hos
            · obtain ⟨os', h3, h4⟩ := Option.map_eq_some_iff.1 hos
              subst h4
              simp only [List.length_cons] at h
              have := ih (r'.drop (m.toNat - 2)).length (by simp; omega) rfl h3
              simp at this ⊢; omega

/-! ### laying -/
def badO (o : Opt) : Bool := decide (o.1 < 1) || decide (255 < o.1) || decide (38 < o.2.length) || (decide (o.1 = 1) && decide (0 < o.2.length))
def layO (o : Opt) : List Int := if o.1 = 1 then [1] else o.1 :: ((o.2.length : Int) + 2) :: o.2
def lay : List Opt → List Int
  | [] => []
  | o :: os => layO o ++ lay os
def padN (n : Nat) : Nat := (4 - n % 4) % 4
def pad (l : List Int) : List Int := l ++ List.replicate (padN l.length) 0
/-- the errno and the bytes that Build tells -/
def buildE (os : List Opt) : Int := if os.any badO then 40 else if 40 < (lay os).length then 3 else 0
def buildB (os : List Opt) : List Int := if buildE os = 0 then pad (lay os) else []
def validB (l : List Int) : Bool := decide (l.length ≤ 40) && decide (l.length % 4 = 0) && (parseL l).isSome
def highB (o : Opt) : Bool := decide (128 ≤ o.1)
def optsOf (l : List Int) : List Opt := (parseL l).getD []
def carryL (l : List Int) : List Int := if validB l then buildB ((optsOf l).filter highB) else []

theorem lay_append (a b : List Opt) : lay (a ++ b) = lay a ++ lay b := by
  induction a with
  | nil => rfl
  | cons o a ih => simp [lay, ih]
theorem lay_snoc (a : List Opt) (o : Opt) : lay (a ++ [o]) = lay a ++ layO o := by rw [lay_append]; simp [lay]
theorem lay_mono (a b : List Opt) : (lay a).length ≤ (lay (a ++ b)).length := by rw [lay_append]; simp
theorem layO_len (o : Opt) : (layO o).length = if o.1 = 1 then 1 else 2 + o.2.length := by unfold layO; split <;> simp <;> omega
theorem lay_byt {os : List Opt} (h : ∀ o ∈ os, badO o = false ∧ Byt o.2) : Byt (lay os) := by
  induction os with
  | nil => exact Byt.nil
  | cons o os ih =>
    obtain ⟨hb, hB⟩ := h o (by simp)
    simp [badO] at hb
    refine Byt.append ?_ (ih fun o' ho' => h o' (by simp [ho']))
    unfold layO
    split
    · exact Byt.one (by decide) (by decide)
    · exact Byt.append (Byt.one (by omega) (by omega)) (Byt.append (Byt.one (by omega) (by omega)) hB)
theorem pad_len (l : List Int) : (pad l).length = l.length + padN l.length := by simp [pad]
theorem pad_mod (l : List Int) : (pad l).length % 4 = 0 := by rw [pad_len]; unfold padN; omega
theorem padN_lt (n : Nat) : padN n < 4 := by unfold padN; omega
theorem replicate_byt (n : Nat) : Byt (List.replicate n 0) := fun x hx => by obtain ⟨_, rfl⟩ := List.mem_replicate.1 hx; omega
theorem pad_byt {l : List Int} (h : Byt l) : Byt (pad l) := h.append (replicate_byt _)
theorem zeros_rep (n : Nat) : zerosB (List.replicate n 0) = true := by simp [zerosB]
theorem parse_zeros (n : Nat) : parseL (List.replicate n 0) = some [] := by
  cases n with
  | zero => rw [List.replicate_zero, parse_nil]
  | succ n => rw [List.replicate_succ, parse_cons, if_pos rfl, zeros_rep]; rfl
/-- options laid, and bytes behind them, are read as the options and what the bytes are -/
theorem parse_lay {os : List Opt} (h : ∀ o ∈ os, badO o = false) (r : List Int) : parseL (lay os ++ r) = (parseL r).map (os ++ ·) := by
  induction os with
  | nil => simp [lay]
  | cons o os ih =>
    have hb := h o (by simp)
    have ih' := ih fun o' ho' => h o' (by simp [ho'])
    simp [badO] at hb
    obtain ⟨k, d⟩ := o
    simp only at hb
    simp only [lay, layO]
    split
    · rename_i h1
      subst h1
      have hd : d = [] := List.length_eq_zero_iff.1 (by
        have := hb.2 rfl
        rw [this]; rfl)
      subst hd
      rw [show [1] ++ lay os ++ r = 1 :: (lay os ++ r) by simp, parse_cons, if_neg (by decide), if_pos rfl, ih']
      cases parseL r <;> simp
    · rename_i h1
      rw [show (k :: ((d.length : Int) + 2) :: d) ++ lay os ++ r = k :: ((d.length : Int) + 2) :: (d ++ (lay os ++ r)) by simp, parse_cons, if_neg (by omega), if_neg h1]
      simp only
      rw [if_neg (by simp; omega), show ((d.length : Int) + 2).toNat - 2 = d.length by omega, List.drop_left, List.take_left, ih']
      cases parseL r <;> simp
theorem parse_build {os : List Opt} (h : ∀ o ∈ os, badO o = false) : parseL (pad (lay os)) = some os := by
  unfold pad
  rw [parse_lay h, parse_zeros]
  simp

theorem build_ok {os : List Opt} (h : ∀ o ∈ os, badO o = false) (hl : (lay os).length ≤ 40) : buildE os = 0 ∧ buildB os = pad (lay os) := by
  have e : buildE os = 0 := by
    unfold buildE
    rw [if_neg (by simp only [List.any_eq_true]; rintro ⟨o, ho, hb⟩; rw [h o ho] at hb; cases hb), if_neg (by omega)]
  exact ⟨e, by unfold buildB; rw [if_pos e]⟩
theorem any_snoc (os : List Opt) (o : Opt) : (os ++ [o]).any badO = (os.any badO || badO o) := by simp
theorem take_snoc' {α : Type} {l : List α} {k : Nat} (h : k < l.length) : l.take (k + 1) = l.take k ++ [l[k]] := List.take_succ_eq_append_getElem h

end Go.Proofs.YtaecfcaeopmiaaaDoor
