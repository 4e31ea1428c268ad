/-
  mosaicref05: read, Parse.
-/
import Derived.Test.YtaecfcaeopmiaaaDoorRf5B
namespace Go.Proofs.YtaecfcaeopmiaaaDoor
open Go.RowKit

theorem built_read (TOS Proto TTL ID Off : Int) {sb db : List Int} (DF More : Bool) (so sx : Option Go.Addr) (no co nx cx : Nat) (h1 : sb.length = 16) (h2 : db.length = 16) :
    Tryd.prog.built 30 [(0, .int .i64 4), (1, .int .i64 TOS), (3, .agg (addrC 4 sb)), (4, .agg (addrC 4 db)), (5, .int .i64 Proto), (6, .int .i64 TTL), (7, .int .u32 ID), (8, .bool DF), (9, .bool More), (11, .int .i64 Off), (12, .slice so no co), (13, .slice sx nx cx)] =
      some (pkC { V := 4, TOS := TOS, Flow := 0, sV := 4, sB := sb, dV := 4, dB := db, Proto := Proto, TTL := TTL, ID := ID, DF := DF, More := More, Frag := false, Off := Off, ov := .slice so no co, xv := .slice sx nx cx }) := by
  obtain ⟨b0, b1, b2, b3, b4, b5, b6, b7, b8, b9, b10, b11, b12, b13, b14, b15, rfl⟩ := len16 h1
  obtain ⟨c0, c1, c2, c3, c4, c5, c6, c7, c8, c9, c10, c11, c12, c13, c14, c15, rfl⟩ := len16 h2
  kernel_rfl
theorem wpD_buildC {ops : Array Oper} {S : World → Prop} {Q : Exit → Act → World → Prop} {o : Oper} {l : List (Oper × Bool)} {a : Act} {w : World} (hg : Region.wanted o (yielded ops a.tmps) = true) (ty : TypeId) (ps : Array (Nat × Operand)) (ho : o.op = .build ty ps) (cs : Array Value)
    (hb : Tryd.prog.built ty (ps.map fun (i, x) => (i, a.eval x)).toList = some cs) (h : wpD Tryd.prog ops S Q l (a.put o.dst (.agg cs)) w) : wpD Tryd.prog ops S Q ((o, false) :: l) a w :=
  wpD_weak hg ⟨_, fun w' _ => by
    unfold execOp
    simp only [ho, Sem.run_bind, run_build w' ty _ cs hb, Result.andThen_ok]
    rfl, h⟩
theorem add_some (b off n : Nat) : (some (⟨b, off, none⟩ : Go.Addr)).map (fun x => x.add n) = some ⟨b, off + n, none⟩ := by
  simp only [Option.map_some, Addr.add]
  split
  · rename_i h; subst h; rfl
  · rfl
def R5Post (l : List Int) (hd : Nat) (w : World) (en : Ending) (w' : World) : Prop :=
  ∃ so co sx cx, en = .returned (.agg (pkC (p4K l (.slice so (hd - 20) co) (.slice sx (l.length - hd) cx)))) ∧
    Sp w w' [.row (.slice sx (l.length - hd) cx) 5 1 (l.length - hd) (bts (l.drop hd)), .row (.slice so (hd - 20) co) 5 1 (hd - 20) (bts ((l.drop 20).take (hd - 20)))]
set_option maxHeartbeats 2000000 in
set_option maxRecDepth 20000 in
theorem r5read_any (bv : Value) (l : List Int) (hd : Nat) (w : World) (h : Rb w bv l) (h20 : 20 ≤ hd) (hh : hd ≤ l.length) (hl : l.length ≤ 65535) : Calls Tryd.prog 38 #[bv, .int .i64 hd] w (R5Post l hd w) := by
  have HB := hid h
  have YB := h.byt
  obtain ⟨ad, cd, rfl, hcd, hmd, hz⟩ := h.open
  unfold maxLen at hmd
  obtain ⟨bk, off, rfl, _⟩ := hz.resolve_left (by omega)
  have g1 := YB.bd 1; have g8 := YB.bd 8; have g9 := YB.bd 9
  have w4 := wordL_bd YB 4
  have w6 := wordL_bd YB 6
  have Z1 : (zp (l.drop 12) 4).length = 16 := zp_len (by simp; omega) (by decide)
  have Z2 : (zp (l.drop 16) 4).length = 16 := zp_len (by simp; omega) (by decide)
  have AD := hid (fun W v m (hv : Rb W v m) (h4 : 4 ≤ m.length) => r5addr_any v m W hv h4)
  have AD1 := hid (fun W v (hv : Rb W v (l.drop 12)) => AD.out W v _ hv (by simp; omega))
  have AD2 := hid (fun W v (hv : Rb W v (l.drop 16)) => AD.out W v _ hv (by simp; omega))
  have GE := hid (fun W k (hk : k + 2 ≤ l.length) (hv : Rb W (.slice (some ⟨bk, off, none⟩) l.length cd) l) => r5get_any _ l k W hv hk)
  have G6 := hid (fun W hv => GE.out W 6 (by omega) hv)
  have G4 := hid (fun W hv => GE.out W 4 (by omega) hv)
  have e1 : ((l.drop 20).take (hd - 20)).length = hd - 20 := by simp; omega
  have e2 : (l.drop hd).length = l.length - hd := by simp
  have OW1 := hid (fun W v (hv : Rb W v ((l.drop 20).take (hd - 20))) => (show Calls Tryd.prog 62 #[v] W (Own1 ((l.drop 20).take (hd - 20)) (hd - 20) W) from by have := r5own_any v _ W hv (by rw [e1]; omega); rwa [e1] at this))
  have OW2 := hid (fun W v (hv : Rb W v (l.drop hd)) => (show Calls Tryd.prog 62 #[v] W (Own1 (l.drop hd) (l.length - hd) W) from by have := r5own_any v _ W hv (by rw [e2]; omega); rwa [e2] at this))
  have Z := hid (fun W (hW : Sp w W []) => (show W.cell? ⟨bk, off + 1, none⟩ = some (.int .u8 (gt l 1)) ∧ W.cell? ⟨bk, off + 8, none⟩ = some (.int .u8 (gt l 8)) ∧ W.cell? ⟨bk, off + 9, none⟩ = some (.int .u8 (gt l 9)) from ⟨(HB.out.below hW.bel).cellAt (j := 1) (by omega), (HB.out.below hW.bel).cellAt (j := 8) (by omega), (HB.out.below hW.bel).cellAt (j := 9) (by omega)⟩))
  have P := hid (fun w' so co sx cx (hS : Sp w w' [.row (.slice sx (l.length - hd) cx) 5 1 (l.length - hd) (bts (l.drop hd)), .row (.slice so (hd - 20) co) 5 1 (hd - 20) (bts ((l.drop 20).take (hd - 20)))]) =>
    (show R5Post l hd w (.returned (.agg (pkC { V := 4, TOS := gt l 1, Flow := 0, sV := 4, sB := zp (l.drop 12) 4, dV := 4, dB := zp (l.drop 16) 4, Proto := gt l 9, TTL := gt l 8, ID := wordL l 4, DF := decide (wordL l 6 / 16384 % 2 = 1), More := decide (wordL l 6 / 8192 % 2 = 1), Frag := false, Off := wordL l 6 % 8192 * 8, ov := .slice so (hd - 20) co, xv := .slice sx (l.length - hd) cx }))) w' from ⟨so, co, sx, cx, rfl, hS⟩))
  have S : Hid (Sp w (w.alloc (.cells #[.int .i64 0, .int .i64 0, .int .i64 0, .int .i64 0, .int .u8 0, .int .u8 0, .int .u8 0, .int .u8 0, .int .u8 0, .int .u8 0, .int .u8 0, .int .u8 0, .int .u8 0, .int .u8 0, .int .u8 0, .int .u8 0, .int .u8 0, .int .u8 0, .int .u8 0, .int .u8 0, .int .i64 0, .int .u8 0, .int .u8 0, .int .u8 0, .int .u8 0, .int .u8 0, .int .u8 0, .int .u8 0, .int .u8 0, .int .u8 0, .int .u8 0, .int .u8 0, .int .u8 0, .int .u8 0, .int .u8 0, .int .u8 0, .int .u8 0, .int .i64 0, .int .i64 0, .int .u32 0, .bool false, .bool false, .bool false, .int .i64 0, .slice none 0 0, .slice none 0 0] 30)) [.blk w.heap.size (pkC pk0) 30]) := hid (Sp.in1 ..)
  clear h hz AD GE e1 e2
  have c1 : IntKind.i64.wrap (gt l 1) = gt l 1 := IntWalk.i64_in _ (by omega)
  have c8 : IntKind.i64.wrap (gt l 8) = gt l 8 := IntWalk.i64_in _ (by omega)
  have c9 : IntKind.i64.wrap (gt l 9) = gt l 9 := IntWalk.i64_in _ (by omega)
  have c4 : IntKind.u32.wrap (wordL l 4) = wordL l 4 := IntWalk.u32_in _ (by omega)
  generalize gt l 1 = x1 at *
  generalize gt l 8 = x8 at *
  generalize gt l 9 = x9 at *
  generalize wordL l 4 = v4 at *
  generalize wordL l 6 = v6 at *
  have t1 : Int.tdiv v6 16384 = v6 / 16384 := Int.tdiv_eq_ediv_of_nonneg w6.1
  have t2 : Int.tmod (v6 / 16384) 2 = v6 / 16384 % 2 := Int.tmod_eq_emod_of_nonneg (by omega)
  have t3 : Int.tdiv v6 8192 = v6 / 8192 := Int.tdiv_eq_ediv_of_nonneg w6.1
  have t4 : Int.tmod (v6 / 8192) 2 = v6 / 8192 % 2 := Int.tmod_eq_emod_of_nonneg (by omega)
  have t5 : Int.tmod v6 8192 = v6 % 8192 := Int.tmod_eq_emod_of_nonneg w6.1
  have t6 : IntKind.i64.wrap (v6 % 8192 * 8) = v6 % 8192 * 8 := IntWalk.i64_in _ (by omega)
  have q1 : IntKind.i64.wrap (v6 / 16384) = v6 / 16384 := IntWalk.i64_in _ (by omega)
  have q2 : IntKind.i64.wrap (v6 / 8192) = v6 / 8192 := IntWalk.i64_in _ (by omega)
  have b1 : (v6 / 16384 % 2 == 1) = decide (v6 / 16384 % 2 = 1) := Bool.beq_eq_decide_eq _ _
  have b2 : (v6 / 8192 % 2 == 1) = decide (v6 / 8192 % 2 = 1) := Bool.beq_eq_decide_eq _ _
  have i1 : (1 : Int) < (l.length : Int) := by omega
  have i8 : (8 : Int) < (l.length : Int) := by omega
  have i9 : (9 : Int) < (l.length : Int) := by omega
  have i12 : (12 : Int) ≤ (l.length : Int) := by omega
  have i16 : (16 : Int) ≤ (l.length : Int) := by omega
  have i20 : (20 : Int) ≤ (hd : Int) := by omega
  have ihd : (hd : Int) ≤ (l.length : Int) := by omega
  have ihc : (hd : Int) ≤ (cd : Int) := by omega
  have jhc : hd ≤ cd := by omega
  go_enter Tryd.func38, Tryd.ntmps38
  go_upto_region 1 with fail
  generalize w.alloc (.cells #[.int .i64 0, .int .i64 0, .int .i64 0, .int .i64 0, .int .u8 0, .int .u8 0, .int .u8 0, .int .u8 0, .int .u8 0, .int .u8 0, .int .u8 0, .int .u8 0, .int .u8 0, .int .u8 0, .int .u8 0, .int .u8 0, .int .u8 0, .int .u8 0, .int .u8 0, .int .u8 0, .int .i64 0, .int .u8 0, .int .u8 0, .int .u8 0, .int .u8 0, .int .u8 0, .int .u8 0, .int .u8 0, .int .u8 0, .int .u8 0, .int .u8 0, .int .u8 0, .int .u8 0, .int .u8 0, .int .u8 0, .int .u8 0, .int .u8 0, .int .i64 0, .int .i64 0, .int .u32 0, .bool false, .bool false, .bool false, .int .i64 0, .slice none 0 0, .slice none 0 0] 30) = w' at *
  generalize w.heap.size = b at *
  go_upto_region 2 with (first
    | go_skip
    | (go_at_call 36; refine (G6.out _ (HB.out.below S.out.bel)).mono ?_; rintro en w' ⟨rfl, hd⟩; replace S := hid (S.out.keep (hd.below _)); clear hd))
  refine wp_region_canon ((0, false) :: (1, false) :: (2, false) :: (3, false) :: (4, false) :: (5, false) :: (7, false) :: (8, false) :: (10, false) :: (11, false) :: (12, false) :: (13, false) :: (14, false) :: (15, false) :: (16, false) :: (17, false) :: (18, false) :: (21, false) :: (22, false) :: (23, false) :: (24, false) :: (25, false) :: (26, false) :: (27, false) :: (28, false) :: (29, false) :: (30, false) :: (31, false) :: (32, false) :: (33, false) :: (34, false) :: (36, false) :: (37, false) :: (38, false) :: (6, true) :: (9, true) :: (19, true) :: (20, false) :: (35, true) :: (39, true) :: (40, false) :: (41, true) :: []) (fun W => Sp w W []) (by kernel_rfl) (by kernel_rfl) (fun c a d v w h => by cases d <;> exact h) ?_ ?_
  · exact (S.out.same (Same.drew _)).nil
  simp only [pick, List.getElem?_cons_succ, List.getElem?_cons_zero]
  replace S := hid (S.out.same (Same.drew w'))
  generalize w'.drew = w' at *
  (repeat (first | (refine wpD_weak (by rfl) ?_; apply Exists.intro; refine ⟨fun wS hS => ?_, ?_⟩; (focus (have z1 := (Z.out _ hS).1; have z8 := (Z.out _ hS).2.1; have z9 := (Z.out _ hS).2.2; go_simp; (try with_reducible rfl); done)); simp only [Act.put, List.setIfInBounds_toArray, List.set_cons_zero, List.set_cons_succ]) | (refine wpD_pass (by rfl) ?_; simp only [Act.put, List.setIfInBounds_toArray, List.set_cons_zero, List.set_cons_succ])))
  (refine wpD_strong (by rfl) (fun K hK => ?_); go_simp)
  refine (AD1.out _ _ (Rb.back (HB.out.below S.out.bel) 12 (by omega))).mono ?_
  rintro en w' ⟨rfl, hb⟩; replace S := hid (S.out.keep hb); clear hb
  (refine hK _ _ (by exact S.out.nil) ?_; clear hK K; (try simp only [Act.put, List.setIfInBounds_toArray, List.set_cons_zero, List.set_cons_succ]))
  (refine wpD_strong (by rfl) (fun K hK => ?_); go_simp)
  refine (AD2.out _ _ (Rb.back (HB.out.below S.out.bel) 16 (by omega))).mono ?_
  rintro en w' ⟨rfl, hb⟩; replace S := hid (S.out.keep hb); clear hb
  (refine hK _ _ (by exact S.out.nil) ?_; clear hK K; (try simp only [Act.put, List.setIfInBounds_toArray, List.set_cons_zero, List.set_cons_succ]))
  (refine wpD_strong (by rfl) (fun K hK => ?_); go_simp)
  refine (G4.out _ (HB.out.below S.out.bel)).mono ?_
  rintro en w' ⟨rfl, hd⟩
  replace S := hid (S.out.keep (hd.below _))
  clear hd
  (refine hK _ _ (by exact S.out.nil) ?_; clear hK K; (try simp only [Act.put, List.setIfInBounds_toArray, List.set_cons_zero, List.set_cons_succ]))
  (repeat (first | (refine wpD_weak (by rfl) ?_; apply Exists.intro; refine ⟨fun wS hS => ?_, ?_⟩; (focus (go_simp; (try with_reducible rfl); done)); simp only [Act.put, List.setIfInBounds_toArray, List.set_cons_zero, List.set_cons_succ]) | (refine wpD_pass (by rfl) ?_; simp only [Act.put, List.setIfInBounds_toArray, List.set_cons_zero, List.set_cons_succ])))
  (refine wpD_strong (by rfl) (fun K hK => ?_); go_simp)
  refine (OW1.out _ _ (Rb.sub (HB.out.below S.out.bel) 20 hd h20 hh)).mono ?_
  rintro en w' ⟨so, co, rfl, hS⟩
  replace hS := S.out.call hS; simp only [List.cons_append, List.nil_append] at hS; replace S := hid hS; clear hS
  (refine hK _ _ (by exact S.out.nil) ?_; clear hK K; (try simp only [Act.put, List.setIfInBounds_toArray, List.set_cons_zero, List.set_cons_succ]))
  (refine wpD_strong (by rfl) (fun K hK => ?_); go_simp)
  refine (OW2.out _ _ (show Rb _ (.slice (if cd = hd then some ⟨bk, off, none⟩ else some ⟨bk, off + hd, none⟩) (l.length - hd) (cd - hd)) (l.drop hd) from by have := Rb.back (HB.out.below S.out.bel) hd hh; unfold subA at this; rw [add_some] at this; exact this)).mono ?_
  rintro en w' ⟨sx, cx, rfl, hS⟩
  replace hS := S.out.call hS; simp only [List.cons_append, List.nil_append] at hS; replace S := hid hS; clear hS
  (refine hK _ _ (by exact S.out.nil) ?_; clear hK K; (try simp only [Act.put, List.setIfInBounds_toArray, List.set_cons_zero, List.set_cons_succ]))
  refine wpD_buildC (by rfl) _ _ rfl _ (by simp only [List.map_toArray, List.map_cons, List.map_nil]; exact built_read x1 x9 x8 v4 (v6 % 8192 * 8) (decide (v6 / 16384 % 2 = 1)) (decide (v6 / 8192 % 2 = 1)) so sx (hd - 20) co (l.length - hd) cx Z1 Z2) ?_
  (try simp only [Act.put, List.setIfInBounds_toArray, List.set_cons_zero, List.set_cons_succ])
  refine wpD_strongL (by rfl) ?_
  go_wp2_with (first
    | go_skip
    | ((with_reducible show wpList _ _ _ _ _ _); ((with_reducible show wpList _ _ _ (⟨_, .store _ _ _, _, _, _, _⟩ :: _) _ _); refine wpList_putW (by rfl) _ _ rfl rfl S.out _ rfl 2 _ rfl _ rfl Z1 Z2 (by first | rfl | assumption) (by first | rfl | assumption) rfl rfl ?_; intro w' hS; simp only [List.set] at hS; replace S := hid hS; clear hS)))
  all_goals (
  refine qEnd_done S.out.nil ?_
  (try simp only [Act.put, List.setIfInBounds_toArray, List.set_cons_zero, List.set_cons_succ])
  refine wpD_nil ?_
  go_wp2_with fail
  refine post_pk1 Tryd.results38 rfl _ _ rfl (S.out.pk 2 rfl) Z1 Z2 ?_
  exact P.out _ so co sx cx (S.out.sub (by repeat (first | exact List.Sublist.refl _ | exact List.nil_sublist _ | apply List.Sublist.cons_cons | apply List.Sublist.cons))))
theorem p4E_first {l : List Int} (h : hE4 l ≠ 0) : p4E l = hE4 l := by
  unfold hE4 at *
  unfold p4E
  by_cases h1 : l.length < 20
  · rw [if_pos h1, if_pos h1]
  · rw [if_neg h1, if_neg h1]
    rw [if_neg h1] at h
    by_cases h2 : gt l 0 / 16 ≠ 4 ∨ head4 l < 20
    · rw [if_pos h2, if_pos h2]
    · rw [if_neg h2] at h ⊢
      rw [if_neg h2]
      by_cases h3 : l.length < head4 l
      · rw [if_pos h3, if_pos h3]
      · rw [if_neg h3] at h
        exact absurd rfl h
theorem hE4_zero {l : List Int} (h : hE4 l = 0) : 20 ≤ l.length ∧ gt l 0 / 16 = 4 ∧ 20 ≤ head4 l ∧ head4 l ≤ l.length := by
  unfold hE4 at h
  split at h
  · cases h
  · split at h
    · cases h
    · split at h
      · cases h
      · omega
theorem p4E_rest {l : List Int} (h : hE4 l = 0) : p4E l = if (wordL l 2 != (l.length : Int)) = true then 51 else if chk4 (l.take (head4 l)) = false then 52 else if decide (32768 ≤ wordL l 6) = true ∨ placed4 (p4K l (.slice none 0 0) (.slice none 0 0)) (l.length - head4 l) = false then 50 else if validB (o4L l) = false then 40 else 0 := by
  obtain ⟨h1, h2, h3, h4⟩ := hE4_zero h
  unfold p4E
  rw [if_neg (by omega), if_neg (by omega), if_neg (by omega), chk4_head h3]
  by_cases e1 : wordL l 2 = (l.length : Int) <;> by_cases e2 : wordL l 10 = 65535 - partL (zeroed4 l) <;> by_cases e3 : 32768 ≤ wordL l 6 <;> simp [e1, e2, e3]
theorem fields4_read {l : List Int} (hb : Byt l) (h20 : 20 ≤ head4 l) (hh : head4 l ≤ l.length) (h65 : l.length ≤ 65535) (o x : Value) : fields4 (p4K l o x) (head4 l - 20) (l.length - head4 l) = placed4 (p4K l (.slice none 0 0) (.slice none 0 0)) (l.length - head4 l) := by
  have y1 := hb.bd 1; have y8 := hb.bd 8; have y9 := hb.bd 9
  have w4 := wordL_bd hb 4
  have l12 : ((l.drop 12).take 4).length = 4 := by simp; omega
  have l16 : ((l.drop 16).take 4).length = 4 := by simp; omega
  have f1 : four4 4 ((l.drop 12).take 4 ++ List.replicate 12 0) = true := by unfold four4; rw [pad_zeros l12]; rfl
  have f2 : four4 4 ((l.drop 16).take 4 ++ List.replicate 12 0) = true := by unfold four4; rw [pad_zeros l16]; rfl
  have e : placed4 (p4K l o x) (l.length - head4 l) = placed4 (p4K l (.slice none 0 0) (.slice none 0 0)) (l.length - head4 l) := rfl
  unfold fields4
  rw [e]
  have f1' : four4 (p4K l o x).sV (p4K l o x).sB = true := f1
  have f2' : four4 (p4K l o x).dV (p4K l o x).dB = true := f2
  rw [f1', f2', decide_eq_true (show (p4K l o x).V = 4 ∧ (p4K l o x).Flow = 0 ∧ (p4K l o x).Frag = false ∧ (p4K l o x).ID ≤ 65535 from ⟨rfl, rfl, rfl, w4.2⟩),
    decide_eq_true (show (0 ≤ (p4K l o x).TOS ∧ (p4K l o x).TOS ≤ 255) ∧ (0 ≤ (p4K l o x).Proto ∧ (p4K l o x).Proto ≤ 255) ∧ 0 ≤ (p4K l o x).TTL ∧ (p4K l o x).TTL ≤ 255 from ⟨y1, y9, y8⟩), decide_eq_true (show 20 + (head4 l - 20) + (l.length - head4 l) ≤ 65535 by omega)]
  simp
set_option maxHeartbeats 1600000 in
set_option maxRecDepth 20000 in
theorem r5parse_any (bv : Value) (l : List Int) (w : World) (h : Rb w bv l) (hl : l.length ≤ 140737488355328) : Calls Tryd.prog 14 #[bv] w (P4Post l w) := by
  have HB := hid h
  have YB := h.byt
  have HO := hid (fun W v (hv : Rb W v l) => rheadOf_any v l W hv hl)
  unfold HdPost at HO
  have S : Hid (Sp w (w.alloc (.cells #[.int .i64 0, .int .i64 0, .int .i64 0, .int .i64 0, .int .u8 0, .int .u8 0, .int .u8 0, .int .u8 0, .int .u8 0, .int .u8 0, .int .u8 0, .int .u8 0, .int .u8 0, .int .u8 0, .int .u8 0, .int .u8 0, .int .u8 0, .int .u8 0, .int .u8 0, .int .u8 0, .int .i64 0, .int .u8 0, .int .u8 0, .int .u8 0, .int .u8 0, .int .u8 0, .int .u8 0, .int .u8 0, .int .u8 0, .int .u8 0, .int .u8 0, .int .u8 0, .int .u8 0, .int .u8 0, .int .u8 0, .int .u8 0, .int .u8 0, .int .i64 0, .int .i64 0, .int .u32 0, .bool false, .bool false, .bool false, .int .i64 0, .slice none 0 0, .slice none 0 0] 30)) [.blk w.heap.size (pkC pk0) 30]) := hid (Sp.in1 ..)
  obtain ⟨ad, cd, rfl, hcd, hmd, hz⟩ := h.open
  unfold maxLen at hmd
  by_cases he0 : hE4 l = 0
  · obtain ⟨h20, -, hh20, hhl⟩ := hE4_zero he0
    have hhd := head4_bd YB
    have heven : head4 l % 2 = 0 := by have := hhd.2; omega
    have PE := hid (p4E_rest he0)
    rw [he0, if_pos rfl] at HO
    have hw2 := wordL_bd YB 2
    have G2 := hid (fun W v (hv : Rb W v l) => (show Calls Tryd.prog 36 #[v, .int .i64 2] W _ from r5get_any v l 2 W hv (by omega)))
    have RS := hid (fun W v (hv : Rb W v l) => rreserved_any v l W hv h20)
    have SE := hid (fun W v (hv : Rb W v (l.take (head4 l))) => rsealed_any v (l.take (head4 l)) W hv (by simp; omega) (by simp; omega) (by simp; omega))
    have RD := hid (fun W v (hv : Rb W v l) (h3 : l.length ≤ 65535) => (show Calls Tryd.prog 38 #[v, .int .i64 (head4 l)] W (fun en w' => ∃ so co sx cx, en = .returned (.agg (pkC (p4K l (.slice so (head4 l - 20) co) (.slice sx (l.length - head4 l) cx)))) ∧
      Sp W w' [.row (.slice sx (l.length - head4 l) cx) 5 1 (l.length - head4 l) (bts (x4L l)), .row (.slice so (head4 l - 20) co) 5 1 (head4 l - 20) (bts (o4L l))]) from r5read_any v l (head4 l) W hv hh20 hhl h3))
    have LA := hid (fun o x => (show (p4K l o x).sB.length = 16 by simp [p4K]; omega))
    have LB := hid (fun o x => (show (p4K l o x).dB.length = 16 by simp [p4K]; omega))
    have FI := hid (fun W so co sx cx (h65 : l.length ≤ 65535) (ho : Rb W (.slice so (head4 l - 20) co) (o4L l)) (hx : Rb W (.slice sx (l.length - head4 l) cx) (x4L l)) =>
      (show Calls Tryd.prog 40 #[.agg (pkC (p4K l (.slice so (head4 l - 20) co) (.slice sx (l.length - head4 l) cx)))] W (APost W (.bool (placed4 (p4K l (.slice none 0 0) (.slice none 0 0)) (l.length - head4 l)))) from by
        have := rfields_any (p4K l (.slice so (head4 l - 20) co) (.slice sx (l.length - head4 l) cx)) (o4L l) (x4L l) W ⟨p4K_is YB h20 rfl rfl, ho, hx⟩ ⟨by rw [o4L_len hhl]; omega, by rw [x4L_len]; omega⟩
        rwa [o4L_len hhl, x4L_len, fields4_read YB hh20 hhl h65] at this))
    have OV := hid (fun W v (hv : Rb W v (o4L l)) => ropts_any v (o4L l) W hv)
    have YO : Byt (o4L l) := (YB.drop 20).take _
    have YX : Byt (x4L l) := YB.drop _
    have PR := hid (fun w' (hp : p4E l = 0) so co sx cx (hS : Sp w w' [.row (.slice sx (l.length - head4 l) cx) 5 1 (l.length - head4 l) (bts (x4L l)), .row (.slice so (head4 l - 20) co) 5 1 (head4 l - 20) (bts (o4L l))]) => (show P4Post l w (.returned (.tuple #[.agg (pkC (p4K l (.slice so (head4 l - 20) co) (.slice sx (l.length - head4 l) cx))), .int .i64 0])) w' from ⟨fun h => absurd hp h, fun _ => ⟨so, co, sx, cx, rfl, hS⟩⟩))
    have PN := hid (fun w' k (hp : p4E l = k) (hk : k ≠ 0) (hS : Sp w w' []) => P4Post.err hp hk hS)
    have H65 := hid (fun (h : wordL l 2 = (l.length : Int)) => (show l.length ≤ 65535 by omega))
    generalize hx2 : wordL l 2 = x2 at *
    generalize decide (32768 ≤ wordL l 6) = r6 at *
    generalize placed4 (p4K l (.slice none 0 0) (.slice none 0 0)) (l.length - head4 l) = pl at *
    generalize chk4 (l.take (head4 l)) = ck at *
    generalize validB (o4L l) = vb at *
    generalize hde : head4 l = hd at *
    clear hx2 hw2 hz hhd heven he0
    go_enter Tryd.func14, Tryd.ntmps14
    go_upto_region 1 with fail
    generalize w.alloc (.cells #[.int .i64 0, .int .i64 0, .int .i64 0, .int .i64 0, .int .u8 0, .int .u8 0, .int .u8 0, .int .u8 0, .int .u8 0, .int .u8 0, .int .u8 0, .int .u8 0, .int .u8 0, .int .u8 0, .int .u8 0, .int .u8 0, .int .u8 0, .int .u8 0, .int .u8 0, .int .u8 0, .int .i64 0, .int .u8 0, .int .u8 0, .int .u8 0, .int .u8 0, .int .u8 0, .int .u8 0, .int .u8 0, .int .u8 0, .int .u8 0, .int .u8 0, .int .u8 0, .int .u8 0, .int .u8 0, .int .u8 0, .int .u8 0, .int .u8 0, .int .i64 0, .int .i64 0, .int .u32 0, .bool false, .bool false, .bool false, .int .i64 0, .slice none 0 0, .slice none 0 0] 30) = w' at *
    go_wp2_with (first
      | go_skip
      | (((with_reducible show wpList _ _ _ (_ :: _) _ (World.alloc _ (.cells _ 30))); refine wpList_world fun w' hw2 => ?_; replace S := hid (show Sp _ _ (.blk _ (pkC pk0) 30 :: _) from S.out.alloc hw2); clear hw2))
      | ((with_reducible show wpList _ _ _ _ _ _)
         first
         | ((with_reducible show wpList _ _ _ (⟨_, .binOp _ _ _ _ _, _, _, _, _⟩ :: _) _ _); refine wpList_cmp (by rfl) _ (by rfl) _ _ _ _ rfl _ (by go_simp; exact rfl) ?_ ?_ <;> (intro hc; (try simp only [decide_eq_true_eq, decide_eq_false_iff_not, Int.not_lt] at hc)))
         | ((with_reducible show wpList _ _ _ (⟨_, .load 30 _, _, _, _, _⟩ :: _) _ _); refine wpList_getW (by rfl) _ rfl S.out _ rfl 0 _ rfl (LA.out _ _) (LB.out _ _) ?_)
         | ((with_reducible show wpList _ _ _ (⟨_, .load _ _, _, _, _, _⟩ :: _) _ _); refine wpList_get_pk (by rfl) _ _ rfl S.out _ _ rfl 0 _ rfl _ rfl (by rfl) (LA.out _ _) (LB.out _ _) ?_)
         | ((with_reducible show wpList _ _ _ (⟨_, .store _ _ _, _, _, _, _⟩ :: _) _ _); first
            | ((have M3 := M2); first
               | ((have M5 := M4); refine wpList_putW (by rfl) _ _ rfl rfl S.out _ rfl 3 _ rfl _ rfl (LA.out _ _) (LB.out _ _) (by first | rfl | assumption) (by first | rfl | assumption) rfl rfl ?_; intro w' hS; simp only [List.set] at hS; replace S := hid hS; clear hS)
               | (refine wpList_putW (by rfl) _ _ rfl rfl S.out _ rfl 0 _ rfl _ rfl (LA.out _ _) (LB.out _ _) (by first | rfl | assumption) (by first | rfl | assumption) rfl rfl ?_; have M4 := True.intro; intro w' hS; simp only [List.set] at hS; replace S := hid hS; clear hS))
            | (first | (refine wpList_putW (by rfl) _ _ rfl rfl S.out _ rfl 0 _ rfl pk0 rfl (by first | rfl | assumption) (by first | rfl | assumption) (by first | rfl | assumption) (by first | rfl | assumption) rfl rfl ?_; intro w' hS; simp only [List.set] at hS; replace S := hid hS; clear hS) | (refine wpList_putW (by rfl) _ _ rfl rfl S.out _ rfl 1 _ rfl pk0 rfl (by first | rfl | assumption) (by first | rfl | assumption) (by first | rfl | assumption) (by first | rfl | assumption) rfl rfl ?_; intro w' hS; simp only [List.set] at hS; replace S := hid hS; clear hS) | (refine wpList_putW (by rfl) _ _ rfl rfl S.out _ rfl 2 _ rfl pk0 rfl (by first | rfl | assumption) (by first | rfl | assumption) (by first | rfl | assumption) (by first | rfl | assumption) rfl rfl ?_; intro w' hS; simp only [List.set] at hS; replace S := hid hS; clear hS) | (refine wpList_putW (by rfl) _ _ rfl rfl S.out _ rfl 3 _ rfl pk0 rfl (by first | rfl | assumption) (by first | rfl | assumption) (by first | rfl | assumption) (by first | rfl | assumption) rfl rfl ?_; intro w' hS; simp only [List.set] at hS; replace S := hid hS; clear hS)))
         | ((with_reducible show wpList _ _ _ (⟨_, .slice _ _ _ _ _, _, _, _, _⟩ :: _) _ _); refine wpList_front (by rfl) _ _ rfl _ _ _ rfl _ _ rfl hd rfl (by omega) ?_))
      | (go_at_call 35; refine (HO.out _ _ (HB.out.below S.out.bel)).mono ?_; rintro en w'' ⟨rfl, rfl⟩)
      | (go_at_call 36; refine (G2.out _ _ (HB.out.below S.out.bel)).mono ?_; rintro en w' ⟨rfl, hdr⟩; replace S := hid (S.out.keep (hdr.below _)); clear hdr)
      | (go_at_call 37; refine (SE.out _ _ ((HB.out.below S.out.bel).front hd hhl)).mono ?_; rintro en w' ⟨rfl, hb⟩; replace S := hid (S.out.keep hb); clear hb; cases ck)
      | (go_at_call 38; have h65 := H65.out (by simpa using hc); refine (RD.out _ _ (HB.out.below S.out.bel) h65).mono ?_; rintro en w' ⟨so, co, sx, cx, rfl, hS⟩; have M2 := True.intro; replace hS := S.out.call hS; simp only [List.cons_append, List.nil_append] at hS; replace S := hid hS; clear hS)
      | (go_at_call 39; refine (RS.out _ _ (HB.out.below S.out.bel)).mono ?_; rintro en w'' ⟨rfl, rfl⟩; cases r6)
      | (go_at_call 40; refine (FI.out _ _ _ _ _ h65 (S.out.rb 2 rfl YO) (S.out.rb 1 rfl YX)).mono ?_; rintro en w' ⟨rfl, hb⟩; replace S := hid (S.out.keep hb); clear hb; cases pl)
      | (go_at_call 41; refine (OV.out _ _ (S.out.rb 2 rfl YO)).mono ?_; rintro en w'' ⟨rfl, rfl⟩; cases vb))
    all_goals
      have he := PE.out
      first
        | rw [if_pos ‹(x2 != (l.length : Int)) = true›] at he
        | (rw [if_neg (by rw [‹(x2 != (l.length : Int)) = false›]; decide)] at he; simp at he)
    all_goals first
      | (refine post_pk Tryd.results14 rfl _ pk0 _ rfl rfl (S.out.pk 0 rfl) rfl rfl ?_; exact PN.out _ _ he (by decide) S.out.nil)
      | (refine post_pk Tryd.results14 rfl _ pk0 _ rfl rfl (S.out.pk 3 rfl) rfl rfl ?_; exact PN.out _ _ he (by decide) S.out.nil)
      | (refine post_pk Tryd.results14 rfl _ _ _ rfl rfl (S.out.pk 3 rfl) (LA.out _ _) (LB.out _ _) ?_; exact PR.out _ he so co sx cx (S.out.sub (by repeat (first | exact List.Sublist.refl _ | exact List.nil_sublist _ | apply List.Sublist.cons_cons | apply List.Sublist.cons))))
  · have he := hid (p4E_first he0)
    have hne := hid he0
    have hb : (hE4 l != 0) = true := by simp [he0]
    rw [if_neg he0] at HO
    clear he0 hz
    generalize hE4 l = e at *
    go_enter Tryd.func14, Tryd.ntmps14
    go_upto_region 1 with fail
    generalize w.alloc (.cells #[.int .i64 0, .int .i64 0, .int .i64 0, .int .i64 0, .int .u8 0, .int .u8 0, .int .u8 0, .int .u8 0, .int .u8 0, .int .u8 0, .int .u8 0, .int .u8 0, .int .u8 0, .int .u8 0, .int .u8 0, .int .u8 0, .int .u8 0, .int .u8 0, .int .u8 0, .int .u8 0, .int .i64 0, .int .u8 0, .int .u8 0, .int .u8 0, .int .u8 0, .int .u8 0, .int .u8 0, .int .u8 0, .int .u8 0, .int .u8 0, .int .u8 0, .int .u8 0, .int .u8 0, .int .u8 0, .int .u8 0, .int .u8 0, .int .u8 0, .int .i64 0, .int .i64 0, .int .u32 0, .bool false, .bool false, .bool false, .int .i64 0, .slice none 0 0, .slice none 0 0] 30) = w' at *
    go_wp2_with (first
      | go_skip
      | ((with_reducible show wpList _ _ _ _ _ _); ((with_reducible show wpList _ _ _ (⟨_, .store _ _ _, _, _, _, _⟩ :: _) _ _); first | (refine wpList_putW (by rfl) _ _ rfl rfl S.out _ rfl 0 _ rfl pk0 rfl (by first | rfl | assumption) (by first | rfl | assumption) (by first | rfl | assumption) (by first | rfl | assumption) rfl rfl ?_; intro w' hS; simp only [List.set] at hS; replace S := hid hS; clear hS) | (refine wpList_putW (by rfl) _ _ rfl rfl S.out _ rfl 1 _ rfl pk0 rfl (by first | rfl | assumption) (by first | rfl | assumption) (by first | rfl | assumption) (by first | rfl | assumption) rfl rfl ?_; intro w' hS; simp only [List.set] at hS; replace S := hid hS; clear hS) | (refine wpList_putW (by rfl) _ _ rfl rfl S.out _ rfl 2 _ rfl pk0 rfl (by first | rfl | assumption) (by first | rfl | assumption) (by first | rfl | assumption) (by first | rfl | assumption) rfl rfl ?_; intro w' hS; simp only [List.set] at hS; replace S := hid hS; clear hS) | (refine wpList_putW (by rfl) _ _ rfl rfl S.out _ rfl 3 _ rfl pk0 rfl (by first | rfl | assumption) (by first | rfl | assumption) (by first | rfl | assumption) (by first | rfl | assumption) rfl rfl ?_; intro w' hS; simp only [List.set] at hS; replace S := hid hS; clear hS)))
      | (go_at_call 35; refine (HO.out _ _ (HB.out.below S.out.bel)).mono ?_; rintro en w'' ⟨rfl, rfl⟩))
    exact post_pk Tryd.results14 rfl _ pk0 _ rfl rfl (S.out.pk 0 rfl) rfl rfl (P4Post.err he.out hne.out S.out)
end Go.Proofs.YtaecfcaeopmiaaaDoor
