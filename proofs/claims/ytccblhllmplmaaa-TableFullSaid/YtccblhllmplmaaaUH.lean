/- texts of the proof, one behind the other -/
import Derived.Test.YtccblhllmplmaaaUG
set_option linter.unusedVariables false
set_option linter.unusedSimpArgs false
set_option maxRecDepth 100000
namespace J
open Go Go.Ab
variable {H : Heap} {Γ Γ0 Γ2 Δ M G : List (Nat × Blk)} {K : Value → Heap → Prop} {v w x : Value} {xs ys bs body : List Int} {j p : Nat} {e : Int} {ss tt bb : List (List Int)}
variable {L : Mloc} {m : Mp} {s : List Int} {pj ps A B k : Nat} {jn : Jn} {vals cs : List Value} {t next first : Tb} {l : List Ch}
theorem _root_.Go.Ab.St.in2 {M A' B' C' : List (Nat × Blk)} (h : St H ((((Γ0 ++ M) ++ A') ++ B') ++ C')) : St H ((((Γ0 ++ C') ++ M) ++ A') ++ B') := h.perm (by
  have e1 : ((((Γ0 ++ M) ++ A') ++ B') ++ C') = Γ0 ++ ((M ++ (A' ++ B')) ++ C') := by simp
  have e2 : ((((Γ0 ++ C') ++ M) ++ A') ++ B') = Γ0 ++ (C' ++ (M ++ (A' ++ B'))) := by simp
  rw [e1, e2]
  exact List.Perm.append_left _ List.perm_append_comm)
theorem _root_.Go.Ab.St.drop1 {D A' B' C' : List (Nat × Blk)} (h : St H ((((Γ0 ++ D) ++ A') ++ B') ++ C')) : St H (((Γ0 ++ A') ++ B') ++ C') :=
  h.sub (List.Sublist.append (List.Sublist.append (List.Sublist.append (List.sublist_append_left _ _) (List.Sublist.refl _)) (List.Sublist.refl _)) (List.Sublist.refl _))
def RdV (Γ : List (Nat × Blk)) (v : Value) (vs : List Value) : Prop := (v = nilSl ∧ vs = []) ∨ ∃ (p c j : Nat) (w : Bool), v = sl p 0 vs.length c ∧ Γ[j]? = some (p, (⟨vs, w⟩ : Blk)) ∧ (c = 2 ∨ c = 3)
theorem RdV.app {l : List Value} (h : RdV Γ v l) : RdV (Γ ++ Δ) v l := by
  rcases h with h | ⟨p, c, j, w, h1, h2⟩
  · exact .inl h
  · exact .inr ⟨p, c, j, w, h1, at_l h2.1, h2.2⟩
theorem RdV.app' {l : List Value} (h : RdV Δ v l) : RdV (Γ ++ Δ) v l := by
  rcases h with h | ⟨p, c, j, w, h1, h2⟩
  · exact .inl h
  · exact .inr ⟨p, c, Γ.length + j, w, h1, at_r h2.1, h2.2⟩
theorem RdV.own {n : Nat} (h : Own 1 v n vals) : RdV (outB v vals) v vals := by
  rcases h with ⟨rfl, _, rfl⟩ | ⟨p, hv, hl⟩
  · exact .inl ⟨rfl, rfl⟩
  · have hl : vals.length = n := by rw [hl, Nat.mul_one]
    subst hl
    rcases hv with rfl | rfl
    · exact .inr ⟨p, _, 0, true, rfl, rfl, .inl rfl⟩
    · exact .inr ⟨p, _, 0, true, rfl, rfl, .inr rfl⟩
theorem RdV.lenSl (h : RdV Γ v vals) : Ab.lenSl v H = some (int vals.length, H) := by
  rcases h with ⟨rfl, rfl⟩ | ⟨p, c, j, w, rfl, _⟩ <;> rfl
def tGo : Tb → List (List Int) → Tb
  | t, [] => t
  | t, b :: r => if (tGet b).2 ≠ 0 then t else if (tApply t (tGet b).1).2 ≠ 0 then t else tGo (tApply t (tGet b).1).1 r
theorem tGo_cons {b : List Int} {r : List (List Int)} : tGo t (b :: r) = if (tGet b).2 ≠ 0 then t else if (tApply t (tGet b).1).2 ≠ 0 then t else tGo (tApply t (tGet b).1).1 r := rfl
def tReplay (bodies : List (List Int)) (first : Tb) : Tb := match bodies with
  | [] => first
  | b :: r => if (tParse b).2 ≠ 0 then first else tGo (tParse b).1 r
theorem tGet_len (bs : List Int) (hb : By bs) : (tGet bs).1.length ≤ 8 := by
  unfold tGet
  split
  · rename_i h8
    by_cases h1 : 1 ≤ bs.length
    · obtain ⟨a1, a2, a3⟩ := tk_ok h1
      rw [a2, a3]
      cases hp : pGo (numB bs 0 1) (bs.drop 1) 0 with
      | none => simp
      | some r =>
        obtain ⟨_, i2, _, _⟩ := pGo_sound _ _ _ (fun x hx => hb x (List.mem_of_mem_drop hx)) hp
        have : r.1.length = numB bs 0 1 := by rw [← i2]; exact rGo_len _ _ _
        simp only
        split
        · show r.1.length ≤ 8; omega
        · simp
    · obtain ⟨a1, a2, a3⟩ := tk_short (by omega : bs.length < 1)
      have a4 : numB bs 0 1 = 0 := by unfold numB; rw [a1]; rfl
      rw [a4]
      show (if rEnd (tkR bs 0 1) (tkE bs 0 1) = 0 then (([] : List Ch), (0 : Int)) else ([], 111)).1.length ≤ 8
      split <;> simp
  · simp
theorem tGet_le (b : List Int) (hb : By b) : (tGet b).1.length ≤ 8 := tGet_len b hb
set_option maxHeartbeats 2000000 in
theorem replay_spec (hO : St H Γ) (hv : RdV Γ v vals) (hr : RdBs Γ vals bb) (hb : ∀ b ∈ bb, By b) (hl : bb.length ≤ 1000) (hx : ∀ b ∈ bb, b.length ≤ 1000000)
    (hk : ∀ H', St H' Γ → K (agg (tbC (tReplay bb first))) H') : wCall P n_table_replay [v, agg (tbC first)] H K := by
  apply table_replay_ok; unfold table_replay
  have el := hr.1
  refine new_at hO ?_
  clear hO
  intro p3 H hO
  rw [zc29]
  refine new_at hO ?_
  clear hO
  intro p4 H hO
  rw [List.append_assoc] at hO
  replace hO : St H (Γ ++ [(p3, ⟨tbC first, true⟩), (p4, ⟨tbC tbz, true⟩)]) := hO
  refine opW_i hv.lenSl ?_
  refine opP_i bin_eql ?_
  refine wIf_dec (fun h => ?_) (fun h => ?_)
  · have : bb = [] := List.length_eq_zero_iff.1 (by omega)
    subst this
    refine loadAll_at hO (Γ.length + 0) (at_r rfl) rfl (by omega) ?_
    refine storeAll_at hO (Γ.length + 1) (at_r rfl) rfl rfl rfl ?_
    clear hO
    intro H hO
    replace hO := hO.set_r
    refine loadAll_at hO (Γ.length + 1) (at_r rfl) rfl (by omega) ?_
    exact hk _ hO.left
  rcases hv with ⟨_, rfl⟩ | ⟨pv, c, jv, wv, rfl, hj, hc⟩
  · simp at h
  match bb, vals, el, hr, hb, hl, hx, hk, hj, h with
  | [], vals, el, hr, hb, hl, hx, hk, hj, h => rw [el] at h; exact absurd rfl h
  | b0 :: r, [], el, hr, hb, hl, hx, hk, hj, h => simp at el
  | b0 :: r, v0 :: vr, el, hr, hb, hl, hx, hk, hj, h =>
  have hn : (v0 :: vr).length = vr.length + 1 := rfl
  have er : vr.length = r.length := by simpa using el
  have hr0 : RdB Γ v0 b0 := hr.2 0 (by simp) (by simp)
  have hrr : ∀ i (h : i < vr.length) (h' : i < r.length), RdB Γ vr[i] r[i] := fun i g1 g2 => hr.2 (i + 1) (by simpa using g1) (by simpa using g2)
  have hb0 := hb b0 List.mem_cons_self
  have hbr : ∀ b ∈ r, By b := fun b h => hb b (List.mem_cons_of_mem _ h)
  have hxr : ∀ b ∈ r, b.length ≤ 1000000 := fun b h => hx b (List.mem_cons_of_mem _ h)
  have hx0 := hx b0 List.mem_cons_self
  have hl : r.length + 1 ≤ 1000 := hl
  refine opP_i (idxSl_ok (by omega) (by rw [hn]; omega)) ?_
  refine load_at hO jv (at_l hj) (v := v0) rfl ?_
  refine table_Parse_spec hO hr0.app hx0 hb0 ?_
  clear hO
  intro H hO
  refine opP_i ext0 ?_
  refine opP_i ext1 ?_
  unfold tReplay at hk
  simp only at hk
  refine new_at hO ?_
  clear hO
  intro p5 H hO
  rw [List.append_assoc] at hO
  refine storeAll_at hO (Γ.length + 2) (at_r rfl) rfl rfl rfl ?_
  clear hO
  intro H hO
  replace hO : St H (Γ ++ [(p3, ⟨tbC first, true⟩), (p4, ⟨tbC tbz, true⟩), (p5, ⟨tbC (tParse b0).1, true⟩)]) := hO.set_r
  refine opP_i bin_neq ?_
  refine wIf_dec (fun h2 => ?_) (fun h2 => ?_)
  · rw [if_pos h2] at hk
    refine loadAll_at hO (Γ.length + 0) (at_r rfl) rfl (by omega) ?_
    refine storeAll_at hO (Γ.length + 1) (at_r rfl) rfl rfl rfl ?_
    clear hO
    intro H hO
    replace hO := hO.set_r
    refine loadAll_at hO (Γ.length + 1) (at_r rfl) rfl (by omega) ?_
    exact hk _ hO.left
  rw [if_neg h2] at hk
  generalize (tParse b0).1 = T0 at *
  have hsl : ∃ c', sliceSl 1 (sl pv 0 (vr.length + 1) c) (some (.int .i64 1)) none none = some (sl pv 1 vr.length c') := by
    rcases hc with rfl | rfl
    · refine ⟨2, ?_⟩
      unfold sliceSl
      have hb : boundLo (vr.length + 1) (some (.int .i64 1)) = some 1 := lo_some (n := 1) (by omega)
      simp only [boundHi, hb]
      simp [maxOk, reslice]
    · refine ⟨3, ?_⟩
      unfold sliceSl
      have hb : boundLo (vr.length + 1) (some (.int .i64 1)) = some 1 := lo_some (n := 1) (by omega)
      simp only [boundHi, hb]
      simp [maxOk, reslice]
  obtain ⟨c', hsl⟩ := hsl
  refine opP_i hsl ?_
  refine opW_i (show lenSl (sl pv 1 vr.length c') H = some (int vr.length, H) from rfl) ?_
  refine table_replay_L0_ind (fun k l' H' => ∃ (y : Nat) (T : Tb), y ≤ vr.length ∧ k = vr.length - y ∧ l' = [ptr p4 0, ptr p5 0, sl pv 1 vr.length c', int vr.length, int y] ∧ St H' (Γ ++ [(p3, ⟨tbC first, true⟩), (p4, ⟨tbC tbz, true⟩), (p5, ⟨tbC T, true⟩)]) ∧ tGo T0 r = tGo T (r.drop y)) _ _ ?_ vr.length _ _ ⟨0, T0, by omega, rfl, rfl, hO, rfl⟩
  clear hO
  rintro k l' H ⟨y, T, hy, rfl, rfl, hO, hgo⟩
  unfold table_replay_L0
  try simp only [nth_zero, nth_succ]
  refine opP_i bin_lss ?_
  refine wIf_dec (fun h3 => ?_) (fun h3 => ?_)
  · have hyl : y < vr.length := by omega
    have hyr : y < r.length := by omega
    rw [List.drop_eq_getElem_cons hyr] at hgo
    have hby := hbr _ (List.getElem_mem hyr)
    rw [tGo_cons] at hgo
    refine opP_i (idxSl_ok (by omega) (by omega)) ?_
    refine load_at hO jv (at_l hj) (v := vr[y]) (by rw [Int.toNat_natCast]; simp [hyl, Nat.add_comm]) ?_
    refine table_Get_spec hO (hrr y hyl hyr).app (hxr _ (List.getElem_mem hyr)) hby ?_
    have hgl := tGet_le r[y] hby
    clear hO
    intro H vg hO hvg
    refine opP_i ext0 ?_
    refine opP_i ext1 ?_
    refine opP_i bin_neq ?_
    refine wIf_dec (fun h4 => ?_) (fun h4 => ?_)
    · rw [if_pos h4] at hgo
      rw [hgo] at hk
      refine loadAll_at hO (Γ.length + 2) (at_l (at_r rfl)) rfl (by omega) ?_
      refine storeAll_at hO (Γ.length + 1) (at_l (at_r rfl)) rfl rfl rfl ?_
      clear hO
      intro H hO
      rw [List.set_append_left _ _ (by simp), Go.Ab.set_r] at hO
      try simp only [nth_zero, nth_succ]
      refine loadAll_at hO (Γ.length + 1) (at_l (at_r rfl)) rfl (by omega) ?_
      exact hk _ hO.left.left
    rw [if_neg h4] at hgo
    refine loadAll_at hO (Γ.length + 2) (at_l (at_r rfl)) rfl (by omega) ?_
    refine table_Apply_spec hO (RdC.own hvg).app' (by omega) ?_
    clear hO
    intro H hO
    refine opP_i ext0 ?_
    refine opP_i ext1 ?_
    replace hO := hO.left
    refine new_at hO ?_
    clear hO
    intro p11 H hO
    refine storeAll_at hO (_ + 0) (at_r rfl) rfl rfl rfl ?_
    clear hO
    intro H hO
    replace hO := hO.set_r
    refine opP_i bin_neq ?_
    refine wIf_dec (fun h5 => ?_) (fun h5 => ?_)
    · rw [if_pos h5] at hgo
      rw [hgo] at hk
      refine loadAll_at hO (Γ.length + 2) (at_l (at_r rfl)) rfl (by omega) ?_
      refine storeAll_at hO (Γ.length + 1) (at_l (at_r rfl)) rfl rfl rfl ?_
      clear hO
      intro H hO
      rw [List.set_append_left _ _ (by simp), Go.Ab.set_r] at hO
      try simp only [nth_zero, nth_succ]
      refine loadAll_at hO (Γ.length + 1) (at_l (at_r rfl)) rfl (by omega) ?_
      exact hk _ hO.left.left
    rw [if_neg h5] at hgo
    refine loadAll_at hO (_ + 0) (at_r rfl) rfl (by omega) ?_
    refine storeAll_at hO (Γ.length + 2) (at_l (at_r rfl)) rfl rfl rfl ?_
    clear hO
    intro H hO
    rw [List.set_append_left _ _ (by simp), Go.Ab.set_r] at hO
    replace hO := hO.left
    refine opP_i (v := int ((y + 1 : Nat) : Int)) (by rw [show ((y + 1 : Nat) : Int) = (y : Int) + 1 by omega]; exact bin_addi (by omega) (by omega)) ?_
    exact ⟨_, by omega, y + 1, _, by omega, rfl, rfl, hO, hgo⟩
  · have ey : y = r.length := by omega
    rw [ey, List.drop_length] at hgo
    have hgo : tGo T0 r = T := hgo
    rw [hgo] at hk
    refine cond_yes rfl ?_
    try simp only [nth_zero, nth_succ]
    refine loadAll_at hO (Γ.length + 2) (at_r rfl) rfl (by omega) ?_
    refine storeAll_at hO (Γ.length + 1) (at_r rfl) rfl rfl rfl ?_
    clear hO
    intro H hO
    replace hO := hO.set_r
    refine loadAll_at hO (Γ.length + 1) (at_r rfl) rfl (by omega) ?_
    exact hk _ hO.left
abbrev SB (ps pj : Nat) (t : Tb) : List (Nat × Blk) := [(ps, ⟨ptr pj 0 :: tbC t, true⟩)]
theorem bStore (pj : Nat) (t : Tb) : (buildC P 80).f [(0, ptr pj 0), (1, agg (tbC t))] = some (agg (ptr pj 0 :: tbC t)) := by kernel_rfl
theorem tOpen_spec (ok : m.Ok) (h0 : ∀ s ∈ m.secs 0, By s) (h1 : ∀ s ∈ m.secs 1, By s) (hbb : ∀ x ∈ (jStand m 0 1).bodies, By x) (hbl : (jStand m 0 1).bodies.length ≤ 1000) (hbx : ∀ x ∈ (jStand m 0 1).bodies, x.length ≤ 1000000)
    (hf : TRight first) (hO : St H (Γ ++ MW L m))
    (hk : ∀ H' Δ ps pj, St H' ((((Γ ++ Δ) ++ SB ps pj (tReplay (jStand m 0 1).bodies first)) ++ JB pj L.pm (jOpen m 0 1)) ++ MW L m) → K (.tuple [ptr ps 0, int 0].toArray) H') : wCall P n_table_Open [ptr L.pm 0, int 0, int 1, agg (tbC first)] H K := by
  apply table_Open_ok; unfold table_Open
  refine new_at hO ?_
  clear hO
  intro p7 H hO
  refine loadAll_at hO (_ + 0) (at_r rfl) (cs := tbC first) rfl (by omega) ?_
  refine table_Right_spec hO ?_
  clear hO
  intro H hO
  rw [decide_eq_true hf]
  refine opP_i un_not ?_
  refine wIf_f rfl ?_
  replace hO : St H ((Γ ++ [(p7, ⟨tbC first, true⟩)]) ++ MW L m) := hO.rot
  refine jOpen_spec ok h0 h1 hO ?_
  clear hO
  intro H Δ vb vals pj hO obs
  refine opP_i ext0 ?_
  refine opP_i ext1 ?_
  refine loadAll_at hO (Γ.length + 0) (at_l (at_l (at_l (at_l (at_r rfl))))) rfl (by omega) ?_
  generalize (jStand m 0 1).bodies = bb at *
  have rdv : RdV (((((Γ ++ [(p7, (⟨tbC first, true⟩ : Blk))]) ++ Δ) ++ outB vb vals) ++ JB pj L.pm (jOpen m 0 1)) ++ MW L m) vb vals := (RdV.own obs.o).app'.app.app
  have rdb : RdBs (((((Γ ++ [(p7, (⟨tbC first, true⟩ : Blk))]) ++ Δ) ++ outB vb vals) ++ JB pj L.pm (jOpen m 0 1)) ++ MW L m) vals bb := (obs.r.app').app.app.app
  refine replay_spec hO rdv rdb hbb hbl hbx ?_
  clear hO
  intro H hO
  refine opP_i (bStore _ _) ?_
  refine new_at hO ?_
  clear hO
  intro ps H hO
  refine hk H ([(p7, ⟨tbC first, true⟩)] ++ (Δ ++ outB vb vals)) ps pj ?_
  refine hO.perm ?_
  show ((((((Γ ++ [(p7, (⟨tbC first, true⟩ : Blk))]) ++ Δ) ++ outB vb vals) ++ JB pj L.pm (jOpen m 0 1)) ++ MW L m) ++ SB ps pj (tReplay bb first)).Perm _
  generalize SB ps pj (tReplay bb first) = S
  generalize JB pj L.pm (jOpen m 0 1) = Y
  generalize MW L m = Z
  generalize [(p7, (⟨tbC first, true⟩ : Blk))] = D1
  have e1 : (((((Γ ++ D1) ++ Δ) ++ outB vb vals) ++ Y) ++ Z) ++ S = (Γ ++ (D1 ++ (Δ ++ outB vb vals))) ++ ((Y ++ Z) ++ S) := by simp
  have e2 : (((Γ ++ (D1 ++ (Δ ++ outB vb vals))) ++ S) ++ Y) ++ Z = (Γ ++ (D1 ++ (Δ ++ outB vb vals))) ++ (S ++ (Y ++ Z)) := by simp
  rw [e1, e2]
  exact List.Perm.append_left _ List.perm_append_comm
theorem tTable_spec {j : Nat} (hO : St H Γ) (hj : Γ[j]? = some (ps, ⟨ptr pj 0 :: tbC t, true⟩)) (hk : ∀ H', St H' Γ → K (agg (tbC t)) H') : wCall P n_table_Store_Table [ptr ps 0] H K := by
  apply table_Store_Table_ok; unfold table_Store_Table
  rw [zc29]
  refine new_at hO ?_
  clear hO
  intro p2 H hO
  refine opP_i nilCheck_ptr ?_
  refine opP_i offPtr_ptr ?_
  refine loadAgg_at hO j (at_l hj) (show _ = tbC t from ?_) rfl (by omega) ?_
  · rfl
  refine storeAll_at hO (_ + 0) (at_r rfl) rfl rfl rfl ?_
  clear hO
  intro H hO
  replace hO := hO.set_r
  refine loadAll_at hO (_ + 0) (at_r rfl) rfl (by omega) ?_
  exact hk _ hO.left
theorem tLeft_spec (ok : m.Ok) (jok : jn.Ok) (hO : St H (((Γ ++ SB ps pj t) ++ JB pj L.pm jn) ++ MW L m)) (hk : K (int (jn.left m)) H) : wCall P n_table_Store_Left [ptr ps 0] H K := by
  apply table_Store_Left_ok; unfold table_Store_Left
  refine opP_i nilCheck_ptr ?_
  refine opP_i offPtr_ptr ?_
  refine load_at hO (Γ.length + 0) (at_l (at_l (at_r rfl))) (v := ptr pj 0) rfl ?_
  exact jLeft_spec ok jok hO hk
theorem jReady_spec {j : Nat} (hO : St H Γ) (hj : Γ[j]? = some (pj, ⟨jv L.pm jn, true⟩)) (hk : K (.bool jn.ready) H) : wCall P n_journal_Journal_Ready [ptr pj 0] H K := by
  apply journal_Journal_Ready_ok; unfold journal_Journal_Ready
  refine opP_i nilCheck_ptr ?_
  refine opP_i offPtr_ptr ?_
  exact load_at hO j hj (v := .bool jn.ready) rfl hk
noncomputable def tKeep (jn : Jn) (m : Mp) (next : Tb) (l : List Ch) : Jn × Mp × Int :=
  if jn.ready = true ∧ (jAppend jn m (lBy l)).2.2 ≠ 92 then jAppend jn m (lBy l) else jBegin jn m (tBy next)
theorem append_full {body : List Int} (h : (jAppend jn m body).2.2 = 92) (hz : ∀ a l, (mWrite a jn.pos l m).2 ≠ 92) : (jAppend jn m body).1 = jn ∧ (jAppend jn m body).2.1 = m := by
  unfold jAppend at h ⊢
  split at h
  · cases h
  rename_i h1
  rw [if_neg h1]
  simp only at h ⊢
  split at h
  · rename_i h2
    rw [if_pos h2]
    exact ⟨rfl, rfl⟩
  · split at h
    · exact absurd h (hz _ _)
    · cases h
theorem erase_e {d : Dv} {a : Int} : (d.erase a).2 = 0 ∨ (d.erase a).2 = 61 ∨ (d.erase a).2 = 62 ∨ (d.erase a).2 = 64 := by
  unfold Dv.erase
  split; simp
  split; simp
  split; simp
  split <;> simp
theorem program_e {d : Dv} {a : Int} {s : List Int} : (d.program a s).2 = 0 ∨ (d.program a s).2 = 61 ∨ (d.program a s).2 = 62 ∨ (d.program a s).2 = 63 := by
  unfold Dv.program
  split; simp
  split; simp
  split; simp
  split <;> simp
theorem sync_e {d : Dv} : d.sync.2 = 0 ∨ d.sync.2 = 62 := by
  unfold Dv.sync
  split; simp
  split <;> simp
theorem place_e {a b : Int} : (m.place a b).2 = 0 ∨ (m.place a b).2 = 71 ∨ (m.place a b).2 = 61 := by
  unfold Mp.place
  split; simp
  split <;> simp
theorem mWrite_e {b : Int} : ∀ (l : List (List Int)) (a : Int) (m : Mp), (mWrite b a l m).2 ≠ 92
  | [], a, m => by
    show m.d.sync.2 ≠ 92
    rcases sync_e (d := m.d) with h | h <;> rw [h] <;> decide
  | s :: r, a, m => by
    rw [mWrite_cons]
    split
    · unfold Mp.program
      split
      · rcases place_e (m := m) (a := b) (b := a) with h | h | h <;> rw [h] <;> decide
      · show (m.d.program _ s).2 ≠ 92
        rcases program_e (d := m.d) (a := (m.place b a).1) (s := s) with h | h | h | h <;> rw [h] <;> decide
    · exact mWrite_e r _ _
set_option maxHeartbeats 2000000 in
theorem keep_spec {N : Nat} (ok : m.Ok) (jok : jn.Ok) (hsm : m.Sm N) (hN : N + 20000 ≤ 1000000) (hv : RdC Γ v l) (hl : l.length ≤ 1000) (hver : ∀ c ∈ l, 0 ≤ c.ver) (hf : 0 ≤ next.flo) (hb1 : By (lBy l)) (hb2 : By (tBy next))
    (hO : St H (((Γ ++ SB ps pj t) ++ JB pj L.pm jn) ++ MW L m)) (how : Mown L m)
    (hk : ∀ H' L', L.Eq L' → St H' (((Γ ++ SB ps pj t) ++ JB pj L'.pm (tKeep jn m next l).1) ++ MW L' (tKeep jn m next l).2.1) → Mown L' (tKeep jn m next l).2.1 → K (int (tKeep jn m next l).2.2) H') :
    wCall P n_table_Store_keep [ptr ps 0, agg (tbC next), v] H K := by
  apply table_Store_keep_ok; unfold table_Store_keep
  have htl : (tBy next).length ≤ 1000000 := by
    by_cases h : TRight next
    · rw [tBy_len h]; omega
    · rw [tBy_no h]; simp
  refine new_at hO ?_
  clear hO
  intro p4 H hO
  replace hO := St.in2 hO
  replace hO : St H ((((Γ ++ [(p4, ⟨tbC next, true⟩)]) ++ SB ps pj t) ++ JB pj L.pm jn) ++ MW L m) := hO
  have his : ∀ {R R1 R2 : List (Nat × Blk)}, (((((Γ ++ R) ++ SB ps pj t) ++ R1) ++ R2))[(Γ ++ R).length + 0]? = some (ps, ⟨ptr pj 0 :: tbC t, true⟩) := at_l (at_l (at_r rfl))
  refine join_with (fun l' H' => l' = [ptr ps 0, ptr p4 0] ∧ ¬ (jn.ready = true ∧ (jAppend jn m (lBy l)).2.2 ≠ 92) ∧ ∃ L2, L.Eq L2 ∧ Mown L2 m ∧ St H' ((((Γ ++ [(p4, ⟨tbC next, true⟩)]) ++ SB ps pj t) ++ JB pj L2.pm jn) ++ MW L2 m)) ?_ ?_
  · refine opP_i nilCheck_ptr ?_
    refine opP_i offPtr_ptr ?_
    refine load_at hO _ his (v := ptr pj 0) rfl ?_
    refine jReady_spec hO (j := ((Γ ++ [(p4, (⟨tbC next, true⟩ : Blk))]) ++ SB ps pj t).length + 0) (at_l (at_r rfl)) ?_
    refine wIf_intro (fun h => ?_) (fun h => ?_)
    · refine opP_i nilCheck_ptr ?_
      refine opP_i offPtr_ptr ?_
      refine load_at hO _ his (v := ptr pj 0) rfl ?_
      refine table_Put_spec hO hv.app.app.app.app hl hver ?_
      intro H2 vp cp hO2 hp
      refine ⟨same_at hO _ his hO2 _ (at_l his) (by rfl), ?_⟩
      clear hO
      replace hO2 := St.in2 hO2
      replace hO2 : St H2 (((((Γ ++ [(p4, ⟨tbC next, true⟩)]) ++ outB vp cp) ++ SB ps pj t) ++ JB pj L.pm jn) ++ MW L m) := hO2
      refine jAppend_spec ok jok hsm (by omega) hp.rd.app'.app hb1 hO2 how ?_
      clear hO2
      intro H3 L3 he hO3 how3
      refine opP_i bin_neq ?_
      refine wIf_dec (fun h2 => ?_) (fun h2 => ?_)
      · have ek : tKeep jn m next l = jAppend jn m (lBy l) := if_pos ⟨h, h2⟩
        rw [ek] at hk
        exact hk _ L3 he (St.drop1 (D := [(p4, (⟨tbC next, true⟩ : Blk))] ++ outB vp cp) (by rw [← List.append_assoc Γ]; exact hO3)) how3
      · have hfu := append_full (Decidable.not_not.1 h2) (fun a l => mWrite_e l _ _)
        rw [hfu.1, hfu.2] at hO3
        rw [hfu.2] at how3
        exact ⟨rfl, fun h4 => h4.2 (Decidable.not_not.1 h2), L3, he, how3, St.drop1 (D := outB vp cp) hO3⟩
    · exact ⟨rfl, (fun h4 => by rw [h] at h4; cases h4.1), L, Mloc.Eq.rfl', how, hO⟩
  clear hO
  rintro l' H ⟨rfl, hn, L2, he2, how2, hO⟩
  try simp only [nth_zero, nth_succ]
  have ek : tKeep jn m next l = jBegin jn m (tBy next) := if_neg hn
  rw [ek] at hk
  refine opP_i nilCheck_ptr ?_
  refine opP_i offPtr_ptr ?_
  refine load_at hO _ his (v := ptr pj 0) rfl ?_
  refine loadAll_at hO (Γ.length + 0) (at_l (at_l (at_l (at_r rfl)))) rfl (by omega) ?_
  refine table_Bytes_spec hO hf ?_
  intro H2 vp cp hO2 hp
  refine ⟨same_at hO _ his hO2 _ (at_l his) (by rfl), ?_⟩
  clear hO
  replace hO2 := St.in2 hO2
  replace hO2 : St H2 (((((Γ ++ [(p4, ⟨tbC next, true⟩)]) ++ outB vp cp) ++ SB ps pj t) ++ JB pj L2.pm jn) ++ MW L2 m) := hO2
  refine jBegin_spec ok jok hsm (by omega) hp.rd.app'.app hb2 htl hO2 how2 ?_
  clear hO2
  intro H3 L3 he hO3 how3
  exact hk _ L3 (he2.trans he) (St.drop1 (D := [(p4, (⟨tbC next, true⟩ : Blk))] ++ outB vp cp) (by rw [← List.append_assoc Γ]; exact hO3)) how3
noncomputable def tDo (t : Tb) (jn : Jn) (m : Mp) (l : List Ch) : Tb × Jn × Mp × Int :=
  if (tApply t l).2 ≠ 0 then (t, jn, m, (tApply t l).2) else
  if (tKeep jn m (tApply t l).1 l).2.2 ≠ 0 then (t, (tKeep jn m (tApply t l).1 l).1, (tKeep jn m (tApply t l).1 l).2.1, (tKeep jn m (tApply t l).1 l).2.2)
  else ((tApply t l).1, (tKeep jn m (tApply t l).1 l).1, (tKeep jn m (tApply t l).1 l).2.1, 0)
theorem do_spec {N : Nat} (ok : m.Ok) (jok : jn.Ok) (hsm : m.Sm N) (hN : N + 20000 ≤ 1000000) (hv : RdC Γ v l) (hl : l.length ≤ 1000) (hver : ∀ c ∈ l, 0 ≤ c.ver) (hf : (tApply t l).2 = 0 → 0 ≤ (tApply t l).1.flo) (hb1 : By (lBy l)) (hb2 : (tApply t l).2 = 0 → By (tBy (tApply t l).1))
    (hO : St H (((Γ ++ SB ps pj t) ++ JB pj L.pm jn) ++ MW L m)) (how : Mown L m)
    (hk : ∀ H' L', L.Eq L' → St H' (((Γ ++ SB ps pj (tDo t jn m l).1) ++ JB pj L'.pm (tDo t jn m l).2.1) ++ MW L' (tDo t jn m l).2.2.1) → Mown L' (tDo t jn m l).2.2.1 → K (int (tDo t jn m l).2.2.2) H') :
    wCall P n_table_Store_Do [ptr ps 0, v] H K := by
  apply table_Store_Do_ok; unfold table_Store_Do
  unfold tDo at hk
  refine opP_i nilCheck_ptr ?_
  refine opP_i offPtr_ptr ?_
  refine loadAgg_at hO (Γ.length + 0) (at_l (at_l (at_r rfl))) (show _ = tbC t from ?_) rfl (by omega) ?_
  · rfl
  refine table_Apply_spec hO hv.app.app.app (by omega) ?_
  clear hO
  intro H hO
  refine opP_i ext0 ?_
  refine opP_i ext1 ?_
  rw [zc29]
  refine new_at hO ?_
  clear hO
  intro p5 H hO
  refine storeAll_at hO (_ + 0) (at_r rfl) rfl rfl rfl ?_
  clear hO
  intro H hO
  replace hO := hO.set_r
  replace hO := St.in2 hO
  replace hO : St H ((((Γ ++ [(p5, ⟨tbC (tApply t l).1, true⟩)]) ++ SB ps pj t) ++ JB pj L.pm jn) ++ MW L m) := hO
  refine opP_i bin_neq ?_
  refine wIf_dec (fun h => ?_) (fun h => ?_)
  · rw [if_pos h] at hk
    exact hk _ L Mloc.Eq.rfl' (St.drop1 hO) how
  rw [if_neg h] at hk
  have h0 := Decidable.not_not.1 h
  refine loadAll_at hO (Γ.length + 0) (at_l (at_l (at_l (at_r rfl)))) rfl (by omega) ?_
  refine keep_spec ok jok hsm hN hv.app hl hver (hf h0) hb1 (hb2 h0) hO how ?_
  clear hO
  intro H L2 he hO how2
  generalize tKeep jn m (tApply t l).1 l = R at *
  refine opP_i bin_neq ?_
  refine wIf_dec (fun h2 => ?_) (fun h2 => ?_)
  · rw [if_pos h2] at hk
    exact hk _ L2 he (St.drop1 hO) how2
  rw [if_neg h2] at hk
  refine loadAll_at hO (Γ.length + 0) (at_l (at_l (at_l (at_r rfl)))) rfl (by omega) ?_
  refine opP_i nilCheck_ptr ?_
  refine opP_i offPtr_ptr ?_
  refine store_at hO ((Γ ++ [(p5, (⟨tbC (tApply t l).1, true⟩ : Blk))]).length + 0) (at_l (at_l (at_r rfl))) rfl (show 0 + 1 + 75 ≤ (ptr pj 0 :: tbC t).length from Nat.le_refl _) rfl ?_
  clear hO
  intro H hO
  rw [List.set_append_left _ _ (by simp), List.set_append_left _ _ (by simp), Go.Ab.set_r] at hO
  replace hO : St H ((((Γ ++ [(p5, ⟨tbC (tApply t l).1, true⟩)]) ++ SB ps pj (tApply t l).1) ++ JB pj L2.pm R.1) ++ MW L2 R.2.1) := hO
  exact hk _ L2 he (St.drop1 hO) how2
end J
set_option linter.unusedVariables false
set_option linter.unusedSimpArgs false
set_option maxRecDepth 100000
namespace J
open Go Go.Ab
variable {xs ys bs body : List Int} {bb nowB more : List (List Int)} {m : Mp} {A B k : Nat} {jn : Jn} {t t' u u' next first T : Tb} {l l' : List Ch} {c c' : Ch} {s s' : Sl}
structure TE (t t' : Tb) : Prop where
  a : slC t.a = slC t'.a
  b : slC t.b = slC t'.b
  act : t.act = t'.act
  boo : t.boo = t'.boo
  flo : t.flo = t'.flo
theorem TE.cells (h : TE t t') : tbC t = tbC t' := by
  unfold tbC
  rw [h.a, h.b, h.act, h.boo, h.flo]
theorem TE.of (h : tbC t = tbC t') : TE t t' := by
  unfold tbC at h
  obtain ⟨h1, h2⟩ := List.append_inj h rfl
  obtain ⟨h3, h4⟩ := List.append_inj h2 rfl
  simp only [List.cons.injEq, Value.int.injEq, true_and, and_true] at h4
  exact ⟨h1, h3, h4.1, h4.2.1, h4.2.2⟩
theorem TE.rfl' : TE t t := ⟨rfl, rfl, rfl, rfl, rfl⟩
theorem TE.symm (h : TE t t') : TE t' t := ⟨h.a.symm, h.b.symm, h.act.symm, h.boo.symm, h.flo.symm⟩
theorem TE.trans (h : TE t t') (h2 : TE t' u) : TE t u := ⟨h.a.trans h2.a, h.b.trans h2.b, h.act.trans h2.act, h.boo.trans h2.boo, h.flo.trans h2.flo⟩
structure CE (c c' : Ch) : Prop where
  k : c.kind = c'.kind
  s : c.slot = c'.slot
  n : c.n = c'.n
  v : c.ver = c'.ver
  t : slC c.to = slC c'.to
def CEs : List Ch → List Ch → Prop
  | [], [] => True
  | c :: l, c' :: l' => CE c c' ∧ CEs l l'
  | _, _ => False
theorem CE.of (h : chC c = chC c') : CE c c' := by
  have h : int c.kind :: int c.slot :: int c.n :: (slC c.to ++ [.int .u64 c.ver]) = int c'.kind :: int c'.slot :: int c'.n :: (slC c'.to ++ [.int .u64 c'.ver]) := h
  simp only [List.cons.injEq, Value.int.injEq, true_and] at h
  obtain ⟨h1, h2, h3, h4⟩ := h
  obtain ⟨h5, h6⟩ := List.append_inj h4 rfl
  simp only [List.cons.injEq, Value.int.injEq, true_and, and_true] at h6
  exact ⟨h1, h2, h3, h6, h5⟩
theorem CEs.of : ∀ {l l' : List Ch}, chs l = chs l' → l.length = l'.length → CEs l l'
  | [], [], _, _ => trivial
  | [], _ :: _, _, h => by simp at h
  | _ :: _, [], _, h => by simp at h
  | c :: l, c' :: l', h, hl => by
    have h : chC c ++ chs l = chC c' ++ chs l' := h
    obtain ⟨h1, h2⟩ := List.append_inj h rfl
    exact ⟨CE.of h1, CEs.of h2 (by simpa using hl)⟩
theorem CEs.rfl' : ∀ l : List Ch, CEs l l
  | [] => trivial
  | c :: l => ⟨⟨rfl, rfl, rfl, rfl, rfl⟩, CEs.rfl' l⟩
theorem TRight_te (h : TE t t') : TRight t ↔ TRight t' := by
  unfold TRight
  rw [SRight_congr h.a, SRight_congr h.b, h.act, h.boo, h.flo]
theorem CEs.ok : ∀ {l l' : List Ch}, CEs l l' → l.length = l'.length ∧ ((∀ c ∈ l, CRight c) ↔ ∀ c ∈ l', CRight c)
  | [], [], _ => ⟨rfl, by simp⟩
  | [], _ :: _, h => h.elim
  | _ :: _, [], h => h.elim
  | c :: l, c' :: l', h => by
    obtain ⟨h1, h2⟩ := CEs.ok h.2
    have hc := CRight_congr h.1.k h.1.s h.1.n h.1.v h.1.t
    refine ⟨by simp [h1], ?_⟩
    rw [List.forall_mem_cons, List.forall_mem_cons, hc, h2]
theorem put_te {i : Int} (h : TE t t') (hs : slC s = slC s') : TE (t.put i s) (t'.put i s') := by
  unfold Tb.put
  by_cases hi : i = 0
  · rw [if_pos hi, if_pos hi]; exact ⟨hs, h.b, h.act, h.boo, h.flo⟩
  · rw [if_neg hi, if_neg hi]; exact ⟨h.a, hs, h.act, h.boo, h.flo⟩
theorem ap1_te (h : TE t t') (hc : CE c c') : (ap1 t c = none ∧ ap1 t' c' = none) ∨ ∃ u u', ap1 t c = some u ∧ ap1 t' c' = some u' ∧ TE u u' := by
  unfold ap1
  rw [← hc.k]
  by_cases h1 : c.kind = 1
  · rw [if_pos h1, if_pos h1]; exact .inr ⟨_, _, rfl, rfl, by rw [hc.s]; exact put_te h hc.t⟩
  rw [if_neg h1, if_neg h1]
  by_cases h2 : c.kind = 2
  · rw [if_pos h2, if_pos h2]; exact .inr ⟨_, _, rfl, rfl, ⟨h.a, h.b, hc.n, h.boo, h.flo⟩⟩
  rw [if_neg h2, if_neg h2]
  by_cases h3 : c.kind = 3
  · rw [if_pos h3, if_pos h3]; exact .inr ⟨_, _, rfl, rfl, ⟨h.a, h.b, h.act, hc.n, h.flo⟩⟩
  rw [if_neg h3, if_neg h3, ← hc.v, ← h.flo]
  by_cases h4 : c.ver < t.flo
  · rw [if_pos h4, if_pos h4]; exact .inl ⟨rfl, rfl⟩
  · rw [if_neg h4, if_neg h4]; exact .inr ⟨_, _, rfl, rfl, ⟨h.a, h.b, h.act, h.boo, rfl⟩⟩
theorem apL_te : ∀ {l l' : List Ch} {t t' : Tb}, TE t t' → CEs l l' → (apL t l = none ∧ apL t' l' = none) ∨ ∃ u u', apL t l = some u ∧ apL t' l' = some u' ∧ TE u u'
  | [], [], t, t', h, _ => .inr ⟨t, t', rfl, rfl, h⟩
  | [], _ :: _, _, _, _, h => h.elim
  | _ :: _, [], _, _, _, h => h.elim
  | c :: l, c' :: l', t, t', h, hc => by
    have e1 : apL t (c :: l) = match ap1 t c with | some t' => apL t' l | none => none := rfl
    have e2 : apL t' (c' :: l') = match ap1 t' c' with | some t' => apL t' l' | none => none := rfl
    rw [e1, e2]
    rcases ap1_te h hc.1 with ⟨g1, g2⟩ | ⟨u, u', g1, g2, g3⟩
    · rw [g1, g2]; exact .inl ⟨rfl, rfl⟩
    · rw [g1, g2]; exact apL_te g3 hc.2
theorem tApply_te (h : TE t t') (hc : CEs l l') : (tApply t l).2 = (tApply t' l').2 ∧ TE (tApply t l).1 (tApply t' l').1 := by
  have h1 : (TRight t ∧ TOk l) ↔ (TRight t' ∧ TOk l') := by
    unfold TOk
    rw [TRight_te h, (CEs.ok hc).1, (CEs.ok hc).2]
  unfold tApply
  by_cases h2 : TRight t ∧ TOk l
  · rw [if_pos h2, if_pos (h1.1 h2)]
    rcases apL_te h hc with ⟨g1, g2⟩ | ⟨u, u', g1, g2, g3⟩
    · rw [g1, g2]; exact ⟨rfl, TE.rfl'⟩
    · rw [g1, g2]; exact ⟨rfl, g3⟩
  · rw [if_neg h2, if_neg (fun h3 => h2 (h1.2 h3))]; exact ⟨rfl, TE.rfl'⟩
theorem apply_ok (h : (tApply t l).2 = 0) : TRight t ∧ TOk l ∧ ∃ u, apL t l = some u ∧ tApply t l = (u, 0) ∧ TRight u := by
  unfold tApply at h ⊢
  by_cases h2 : TRight t ∧ TOk l
  · rw [if_pos h2] at h ⊢
    cases h3 : apL t l with
    | none => rw [h3] at h; cases h
    | some u => exact ⟨h2.1, h2.2, u, rfl, rfl, apL_right l h2.1 h2.2.2 h3⟩
  · rw [if_neg h2] at h; cases h
theorem apply_e : (tApply t l).2 = 0 ∨ (tApply t l).2 = 111 := by
  unfold tApply
  split
  · split <;> simp
  · simp
def goOk : Tb → List (List Int) → Tb → Prop
  | T, [], t => TE T t
  | T, b :: r, t => (tGet b).2 = 0 ∧ (tApply T (tGet b).1).2 = 0 ∧ goOk (tApply T (tGet b).1).1 r t
def RepOk (bb : List (List Int)) (t : Tb) : Prop := match bb with
  | [] => TE tbz t
  | b :: r => (tParse b).2 = 0 ∧ goOk (tParse b).1 r t
theorem go_te : ∀ (r : List (List Int)) (T t : Tb), goOk T r t → TE (tGo T r) t
  | [], T, t, h => h
  | b :: r, T, t, h => by
    rw [tGo_cons, if_neg (by rw [h.1]; simp), if_neg (by rw [h.2.1]; simp)]
    exact go_te r _ t h.2.2
theorem rep_te (h : RepOk bb t) : TE (tReplay bb tbz) t := by
  match bb, h with
  | [], h => exact h
  | b :: r, h =>
    show TE (if (tParse b).2 ≠ 0 then tbz else tGo (tParse b).1 r) t
    rw [if_neg (by rw [h.1]; simp)]
    exact go_te r _ t h.2
theorem rep_base (h : TRight t) (hf : 0 ≤ t.flo) : RepOk [tBy t] t := by
  obtain ⟨t', e, h2⟩ := parse_bytes h hf
  show (tParse (tBy t)).2 = 0 ∧ TE (tParse (tBy t)).1 t
  rw [e]
  exact ⟨rfl, TE.of h2⟩
theorem go_next (ho : (tApply t l).2 = 0) (hv : ∀ c ∈ l, 0 ≤ c.ver) : ∀ (r : List (List Int)) (T : Tb), goOk T r t → goOk T (r ++ [lBy l]) (tApply t l).1
  | [], T, h => by
    obtain ⟨_, hok, _⟩ := apply_ok ho
    obtain ⟨l', e, h2, h3⟩ := get_put hok hv
    have hc : CEs l' l := CEs.of h2 h3
    obtain ⟨g1, g2⟩ := tApply_te (show TE T t from h) hc
    show (tGet (lBy l)).2 = 0 ∧ (tApply T (tGet (lBy l)).1).2 = 0 ∧ TE (tApply T (tGet (lBy l)).1).1 (tApply t l).1
    rw [e]
    exact ⟨rfl, by rw [g1, ho], g2⟩
  | b :: r, T, h => ⟨h.1, h.2.1, go_next ho hv r _ h.2.2⟩
theorem rep_next (h : RepOk bb t) (hn : bb ≠ []) (ho : (tApply t l).2 = 0) (hv : ∀ c ∈ l, 0 ≤ c.ver) : RepOk (bb ++ [lBy l]) (tApply t l).1 := by
  match bb, h, hn with
  | b :: r, h, _ => exact ⟨h.1, go_next ho hv r _ h.2⟩
structure TW (t : Tb) : Prop where
  f : 0 ≤ t.flo
  a : ∀ i, 0 ≤ t.a.dg i ∧ t.a.dg i ≤ 255
  b : ∀ i, 0 ≤ t.b.dg i ∧ t.b.dg i ≤ 255
theorem tbz_tw : TW tbz := ⟨by decide, fun i => by show (0 : Int) ≤ 0 ∧ (0 : Int) ≤ 255; omega, fun i => by show (0 : Int) ≤ 0 ∧ (0 : Int) ≤ 255; omega⟩
theorem ap1_tw (h : TW t) (hc : CBy c) (h1 : ap1 t c = some u) : TW u := by
  unfold ap1 at h1
  split at h1
  · cases h1
    unfold Tb.put
    split
    · exact ⟨h.f, hc.1, h.b⟩
    · exact ⟨h.f, h.a, hc.1⟩
  split at h1
  · cases h1; exact ⟨h.f, h.a, h.b⟩
  split at h1
  · cases h1; exact ⟨h.f, h.a, h.b⟩
  split at h1
  · cases h1
  · cases h1; exact ⟨hc.2, h.a, h.b⟩
theorem apL_tw : ∀ (l : List Ch) (t u : Tb), TW t → (∀ c ∈ l, CBy c) → apL t l = some u → TW u
  | [], t, u, h, _, e => by cases e; exact h
  | c :: l, t, u, h, hc, e => by
    have e : (match ap1 t c with | some t' => apL t' l | none => none) = some u := e
    cases h1 : ap1 t c with
    | none => rw [h1] at e; cases e
    | some t1 =>
      rw [h1] at e
      exact apL_tw l t1 u (ap1_tw h (hc c List.mem_cons_self) h1) (fun c hc' => hc c (List.mem_cons_of_mem _ hc')) e
theorem apply_tw (h : TW t) (hc : ∀ c ∈ l, CBy c) : TW (tApply t l).1 := by
  unfold tApply
  split
  · cases h1 : apL t l with
    | none => exact tbz_tw
    | some u => exact apL_tw l t u h hc h1
  · exact tbz_tw
theorem parse_tw (hb : By bs) : TW (tParse bs).1 := by
  unfold tParse
  split
  · refine ⟨?_, fun i => ?_, fun i => ?_⟩
    · show (0 : Int) ≤ ((leV _ : Nat) : Int); omega
    · exact slOf_dg (xs := bs.take 46) (by_take hb _) i
    · exact slOf_dg (xs := (bs.drop 46).take 46) (by_take (by_drop hb _) _) i
  · exact tbz_tw
theorem tGet_cby (hb : By bs) : ∀ c ∈ (tGet bs).1, CBy c := by
  unfold tGet
  split
  · by_cases h1 : 1 ≤ bs.length
    · obtain ⟨a1, a2, a3⟩ := tk_ok h1
      rw [a2, a3]
      cases hp : pGo (numB bs 0 1) (bs.drop 1) 0 with
      | none => simp
      | some r =>
        obtain ⟨_, i2, _, _⟩ := pGo_sound _ _ _ (by_drop hb 1) hp
        simp only
        split
        · intro c hc
          rw [← i2] at hc
          exact rGo_cby _ _ _ (by_drop hb 1) c hc
        · simp
    · obtain ⟨a1, a2, a3⟩ := tk_short (xs := bs) (n := 1) (by omega)
      unfold numB
      rw [a1]
      simp [leV, pGo]
      split <;> simp
  · simp
theorem go_tw : ∀ (r : List (List Int)) (T : Tb), TW T → (∀ b ∈ r, By b) → TW (tGo T r)
  | [], T, h, _ => h
  | b :: r, T, h, hb => by
    rw [tGo_cons]
    split
    · exact h
    split
    · exact h
    · exact go_tw r _ (apply_tw h (tGet_cby (hb b List.mem_cons_self))) fun x hx => hb x (List.mem_cons_of_mem _ hx)
theorem replay_tw (hb : ∀ b ∈ bb, By b) : TW (tReplay bb tbz) := by
  match bb, hb with
  | [], _ => exact tbz_tw
  | b :: r, hb =>
    show TW (if (tParse b).2 ≠ 0 then tbz else tGo (tParse b).1 r)
    split
    · exact tbz_tw
    · exact go_tw r _ (parse_tw (hb b List.mem_cons_self)) fun x hx => hb x (List.mem_cons_of_mem _ hx)
theorem wipeN_e {b : Int} : ∀ (n y : Nat) (m : Mp), (Mp.wipeN b n y m).2 ≠ 92
  | 0, _, m => by show (0 : Int) ≠ 92; decide
  | n + 1, y, m => by
    rw [Mp.wipeN_succ]
    split
    · exact wipeN_e n _ _
    split
    · unfold Mp.erase
      split
      · rcases place_e (m := m) (a := b) (b := (y : Int)) with h | h | h <;> rw [h] <;> decide
      · show (m.d.erase _).2 ≠ 92
        rcases erase_e (d := m.d) (a := (m.place b y).1) with h | h | h | h <;> rw [h] <;> decide
    · exact wipeN_e n _ _
theorem begin_e92 (hr : jn.room m body.length) : (jBegin jn m body).2.2 ≠ 92 := by
  unfold jBegin
  rw [if_neg (fun h => h hr)]
  simp only
  split
  · show (m.wipe _).2 ≠ 92
    unfold Mp.wipe
    split
    · show (71 : Int) ≠ 92; decide
    · exact wipeN_e _ _ _
  split
  · show ((m.wipe _).1.d.sync).2 ≠ 92
    rcases sync_e (d := (m.wipe (jn.bank (1 - jn.now))).1.d) with h | h <;> rw [h] <;> decide
  split
  · exact mWrite_e _ _ _
  · show (0 : Int) ≠ 92; decide
theorem begin_pos (h : (jBegin jn m body).2.2 = 0) : (jBegin jn m body).1.pos = ((fPut 1 (jn.last + 1) body).length : Int) := by
  unfold jBegin at h ⊢
  split at h
  · cases h
  rename_i h1
  rw [if_neg h1]
  simp only at h ⊢
  split at h
  · rename_i h2; exact absurd h h2
  rename_i h2
  rw [if_neg h2]
  split at h
  · rename_i h3; exact absurd h h3
  rename_i h3
  rw [if_neg h3]
  split at h
  · rename_i h4; exact absurd h h4
  rename_i h4
  rw [if_neg h4]
theorem append_pos (h : (jAppend jn m body).2.2 = 0) : (jAppend jn m body).1.pos = jn.pos + (fPut 2 (jn.last + 1) body).length := by
  unfold jAppend at h ⊢
  split at h
  · cases h
  rename_i h1
  rw [if_neg h1]
  simp only at h ⊢
  split at h
  · cases h
  rename_i h2
  rw [if_neg h2]
  split at h
  · rename_i h3; exact absurd h h3
  rename_i h3
  rw [if_neg h3]
theorem room_table (hu : Use A B k jn m) (hk : k ≤ 9000) (hA : 2 ≤ A) (hB : 2 ≤ B) (hr : TRight next) : jn.room m (tBy next).length := by
  have e : fSize ((tBy next).length : Nat) = 2 := by rw [tBy_len hr]; rfl
  rintro (h | h)
  · apply h
    refine ⟨by rw [e]; omega, ?_, ?_⟩
    · rw [e, hu.jab.a, two_size hu.wd.two (.inl rfl)]; exact hA
    · rw [e, hu.jab.b, two_size hu.wd.two (.inr rfl)]; exact hB
  · have := hu.lk; omega
def KeepR (A B k : Nat) (jn : Jn) (m : Mp) (now more : List (List Int)) (R : Jn × Mp × Int) : Prop :=
  Use A B (k + 1) R.1 R.2.1 ∧ ((R.2.2 = 0 ∧ Up R.1 R.2.1 A B more ∧ R.1.ready = true ∧ (m.d.budget < 0 → R.2.1.d.budget = m.d.budget) ∧ ((jn.ready = true → 2 ≤ jn.pos) → 2 ≤ R.1.pos)) ∨
   (R.2.2 = 62 ∧ 0 ≤ m.d.budget ∧ Fell R.1 R.2.1 A B jn.last now more))
theorem keep_up (hu : Use A B k jn m) (hup : Up jn m A B nowB) (hk : k ≤ 9000) (hA : 2 ≤ A) (hB : 2 ≤ B) (hr : TRight next) (hb1 : By (lBy l)) (hb2 : By (tBy next)) :
    ∃ more, (more = [tBy next] ∨ (nowB ≠ [] ∧ more = nowB ++ [lBy l])) ∧ KeepR A B k jn m nowB more (tKeep jn m next l) := by
  have lk := hu.lk
  have base : KeepR A B k jn m nowB [tBy next] (jBegin jn m (tBy next)) := by
    have hroom := room_table hu hk hA hB hr
    obtain ⟨⟨r1, r2, r3, r4, r5⟩, r6⟩ := begin_up hu.wd (by omega) hup hu.jab hroom (by omega)
    have u1 : (jBegin jn m (tBy next)).2.1.Ok := jBegin_ok hu.ok
    have u2 : (jBegin jn m (tBy next)).1.Ok := jBegin_jok hu.jok
    have u3 : (jBegin jn m (tBy next)).2.1.Sm (5000 * (k + 1)) := (jBegin_sm hu.ok hu.sm).mono (by omega)
    have u4 : BD (jBegin jn m (tBy next)).2.1.d := begin_bd hu.bd hb2
    have up := begin_pos (jn := jn) (m := m) (body := tBy next)
    have ul : (fPut 1 (jn.last + 1) (tBy next)).length = 2 := by rw [fPut_size, tBy_len hr]; rfl
    generalize jBegin jn m (tBy next) = R at *
    rcases r5 with ⟨c1, c2, c3, c4, c5⟩ | ⟨c1, c2, c3, c4⟩
    · exact ⟨⟨r3, u1, u2, r4, u3, u4, by rw [c4]; omega, u2.n⟩, .inl ⟨c1, c2, c3, c5, fun _ => by rw [up c1, ul]; omega⟩⟩
    · exact ⟨⟨r3, u1, u2, r4, u3, u4, by rw [c4]; omega, u2.n⟩, .inr ⟨c1, c2, c3⟩⟩
  unfold tKeep
  by_cases h : jn.ready = true ∧ (jAppend jn m (lBy l)).2.2 ≠ 92
  · rw [if_pos h]
    have hmore : jn.more m (fPut 2 (jn.last + 1) (lBy l)).length := by
      by_cases hm : jn.more m (fPut 2 (jn.last + 1) (lBy l)).length
      · exact hm
      · exfalso
        apply h.2
        unfold jAppend
        rw [if_neg (by simp [h.1])]
        simp only
        rw [if_pos hm]
    obtain ⟨r1, r2, r3, r4, r5⟩ := append_up (body := lBy l) hu.wd (by omega) hup hu.jab h.1 hmore (by omega)
    obtain ⟨F, hj, hrdy⟩ := hup.st
    obtain ⟨_, _, _, _, _, _, hne⟩ := hrdy h.1
    have u1 : (jAppend jn m (lBy l)).2.1.Ok := jAppend_ok hu.ok
    have u2 : (jAppend jn m (lBy l)).1.Ok := jAppend_jok hu.ok hu.jok
    have u3 : (jAppend jn m (lBy l)).2.1.Sm (5000 * (k + 1)) := (jAppend_sm hu.ok hu.sm).mono (by omega)
    have u4 : BD (jAppend jn m (lBy l)).2.1.d := append_bd hu.bd hb1
    have up := append_pos (jn := jn) (m := m) (body := lBy l)
    refine ⟨nowB ++ [lBy l], .inr ⟨hne, rfl⟩, ?_⟩
    have hrd := h.1
    clear h
    generalize jAppend jn m (lBy l) = R at *
    rcases r5 with ⟨c1, c2, c3, c4, c5⟩ | ⟨c1, c2, c3, c4⟩
    · exact ⟨⟨r3, u1, u2, r4, u3, u4, by rw [c4]; omega, u2.n⟩, .inl ⟨c1, c2, c3, c5, fun hp => by rw [up c1]; have := hp hrd; omega⟩⟩
    · exact ⟨⟨r3, u1, u2, r4, u3, u4, by rw [c4]; omega, u2.n⟩, .inr ⟨c1, c2, c3⟩⟩
  · rw [if_neg h]
    exact ⟨_, .inl rfl, base⟩
theorem keep_down (hu : Use A B k jn m) (hdn : m.d.down = true) (hnr : jn.ready = false) (hk : k ≤ 9000) (hA : 2 ≤ A) (hB : 2 ≤ B) (hr : TRight next) : tKeep jn m next l = (jn, m, 62) := by
  unfold tKeep
  rw [if_neg (by rw [hnr]; simp)]
  rcases begin_down (body := tBy next) hu.wd.two hdn hu.jab hu.bit with h | h
  · exfalso
    apply begin_e92 (room_table hu hk hA hB hr)
    rw [h]
  · rw [h]
    have : ({ jn with ready := false } : Jn) = jn := by
      obtain ⟨a, b, c, d, e, f⟩ := jn
      have : f = false := hnr
      subst this; rfl
    rw [this]
structure SInv (A B k : Nat) (t : Tb) (jn : Jn) (m : Mp) (mays : List Tb) : Prop where
  r : TRight t
  w : TW t
  mr : ∀ u ∈ mays, TRight u
  i : ∃ nowB mb, HInv A B k jn m nowB mb ∧ RepOk nowB t ∧ ∀ x ∈ mb, ∃ u ∈ mays, RepOk x u
theorem SInv.use {mays : List Tb} (h : SInv A B k t jn m mays) : Use A B k jn m := by
  obtain ⟨_, _, hi, _⟩ := h.i
  exact hi.1
theorem rep_keep (h : more = [tBy (tApply t l).1] ∨ (nowB ≠ [] ∧ more = nowB ++ [lBy l])) (hr : RepOk nowB t) (ho : (tApply t l).2 = 0) (hw : TW t) (hc : ∀ c ∈ l, CBy c) : RepOk more (tApply t l).1 := by
  obtain ⟨_, _, u, _, e, hu⟩ := apply_ok ho
  have hw' := apply_tw hw hc
  rcases h with rfl | ⟨hne, rfl⟩
  · exact rep_base (by rw [e]; exact hu) hw'.f
  · exact rep_next hr hne ho fun c h => (hc c h).2
theorem do_inv {mays : List Tb} (h : SInv A B k t jn m mays) (hk : k ≤ 9000) (hA : 2 ≤ A) (hB : 2 ≤ B) (hc : ∀ c ∈ l, CBy c) :
    let D := tDo t jn m l
    ((tApply t l).2 = 111 ∧ D = (t, jn, m, 111)) ∨ ((tApply t l).2 = 0 ∧ ((D.2.2.2 = 0 ∧ D.1 = (tApply t l).1 ∧ SInv A B (k + 1) D.1 D.2.1 D.2.2.1 mays) ∨ (D.2.2.2 = 62 ∧ D.1 = t ∧ SInv A B (k + 1) t D.2.1 D.2.2.1 (mays ++ [(tApply t l).1])))) := by
  intro D
  obtain ⟨nowB, mb, ⟨hu, hs⟩, hrep, hmb⟩ := h.i
  have hD : D = tDo t jn m l := rfl
  unfold tDo at hD
  rcases apply_e (t := t) (l := l) with ho | ho
  · right
    refine ⟨ho, ?_⟩
    obtain ⟨_, _, u, _, e, hur⟩ := apply_ok ho
    have hr' : TRight (tApply t l).1 := by rw [e]; exact hur
    have hw' := apply_tw h.w hc
    have hmr : ∀ u ∈ mays ++ [(tApply t l).1], TRight u := fun x hx => by
      rcases List.mem_append.1 hx with hx | hx
      · exact h.mr x hx
      · rw [List.mem_singleton.1 hx]; exact hr'
    have hb1 := By_lBy hc
    have hb2 : By (tBy (tApply t l).1) := By_tBy hw'.a hw'.b
    rw [if_neg (by rw [ho]; simp)] at hD
    rcases hs with ⟨hup, rfl⟩ | hdn
    · obtain ⟨more, hm, ⟨ku, kk⟩⟩ := keep_up (l := l) hu hup hk hA hB hr' hb1 hb2
      have hrm := rep_keep hm hrep ho h.w hc
      generalize tKeep jn m (tApply t l).1 l = R at *
      rcases kk with ⟨c1, c2, c3, _, _⟩ | ⟨c1, c2, c3⟩
      · rw [if_neg (by rw [c1]; simp)] at hD
        rw [hD]
        exact .inl ⟨rfl, rfl, ⟨hr', hw', h.mr, more, [], ⟨ku, .inl ⟨c2, rfl⟩⟩, hrm, fun x hx => by cases hx⟩⟩
      · rw [if_pos (by rw [c1]; decide)] at hD
        rw [hD]
        refine .inr ⟨c1, rfl, ⟨h.r, h.w, hmr, nowB, [more], ⟨ku, .inr ⟨c3.dn, c3.wt, c3.nr, fun d' ha => ?_⟩⟩, hrep, fun x hx => ⟨(tApply t l).1, by simp, by rw [List.mem_singleton.1 hx]; exact hrm⟩⟩⟩
        obtain ⟨i, F, last, now', h1, h2, h3⟩ := c3.nw d' ha
        have := hu.lk
        exact ⟨i, F, last, now', by rcases h1 with rfl | rfl <;> simp, h2, by omega⟩
    · rw [keep_down hu hdn.dn hdn.nr hk hA hB hr'] at hD
      rw [if_pos (show (62 : Int) ≠ 0 by decide)] at hD
      rw [hD]
      refine .inr ⟨rfl, rfl, ⟨h.r, h.w, hmr, nowB, mb, (show HInv A B k jn m nowB mb from ⟨hu, .inr hdn⟩).mono (by omega), hrep, fun x hx => ?_⟩⟩
      obtain ⟨u, h1, h2⟩ := hmb x hx
      exact ⟨u, List.mem_append_left _ h1, h2⟩
  · left
    rw [if_pos (by rw [ho]; decide)] at hD
    exact ⟨ho, by rw [hD, ho]⟩
theorem anew_store {mays : List Tb} (h : SInv A B k t jn m mays) (hk : k < 10000) (ks : List Int) :
    let m' : Mp := { m with d := m.d.restart ks }
    let bb := (jStand m' 0 1).bodies
    m'.Ok ∧ BD m'.d ∧ Two m' A B ∧ (∃ u, (u = t ∨ u ∈ mays) ∧ TE (tReplay bb tbz) u) ∧ SInv A B k (tReplay bb tbz) (jOpen m' 0 1) m' [] := by
  intro m' bb
  obtain ⟨nowB, mb, hi, hrep, hmb⟩ := h.i
  obtain ⟨nok, nbd, nsm, nmem, ninv⟩ := anew_inv hi hk ks
  have hall : ∃ u, (u = t ∨ u ∈ mays) ∧ RepOk bb u := by
    rcases List.mem_cons.1 nmem with e | hx
    · exact ⟨t, .inl rfl, by rw [show bb = nowB from e]; exact hrep⟩
    · obtain ⟨u, h1, h2⟩ := hmb _ hx
      exact ⟨u, .inr h1, h2⟩
  obtain ⟨u, h1, h2⟩ := hall
  have hte := rep_te h2
  refine ⟨nok, nbd, ninv.1.wd.two, ⟨u, h1, hte⟩, ?_⟩
  have hrep2 : RepOk bb (tReplay bb tbz) := by
    have : ∀ (r : List (List Int)) (T t : Tb), goOk T r t → goOk T r (tGo T r) := by
      intro r
      induction r with
      | nil => intro T t _; exact TE.rfl'
      | cons b r ih =>
        intro T t hg
        rw [tGo_cons, if_neg (by rw [hg.1]; simp), if_neg (by rw [hg.2.1]; simp)]
        exact ⟨hg.1, hg.2.1, ih _ t hg.2.2⟩
    generalize bb = xx at h2
    match xx, h2 with
    | [], _ => exact TE.rfl'
    | b :: r, h2 =>
      show (tParse b).2 = 0 ∧ goOk (tParse b).1 r (if (tParse b).2 ≠ 0 then tbz else tGo (tParse b).1 r)
      rw [if_neg (by rw [h2.1]; simp)]
      exact ⟨h2.1, this r _ _ h2.2⟩
  have hur : TRight u → TRight (tReplay bb tbz) := fun hu => (TRight_te hte).2 hu
  have hu : TRight u := by
    rcases h1 with rfl | h1
    · exact h.r
    · exact h.mr u h1
  exact ⟨hur hu, replay_tw (stand_by nbd), (fun x hx => by cases hx), bb, [], ninv, hrep2, (fun x hx => by cases hx)⟩
end J
set_option linter.unusedVariables false
set_option linter.unusedSimpArgs false
set_option maxRecDepth 100000
namespace J
open Go Go.Ab
variable {H : Heap} {Γ Γ0 Γ2 Δ M G : List (Nat × Blk)} {K : Value → Heap → Prop} {v w x : Value} {xs ys bs body : List Int} {j p : Nat} {e : Int} {ss tt bb : List (List Int)}
variable {L : Mloc} {m : Mp} {s : List Int} {pj ps A B k : Nat} {jn : Jn} {vals cs : List Value} {t next first : Tb} {l : List Ch}
theorem _root_.Go.Ab.St.keepP {R : List (Nat × Blk)} (h : St H Γ) (hp : Γ.Perm (Δ ++ R)) : St H Δ := (h.perm hp).left
def kT : List CK := kS ++ (kS ++ [.i .i64, .i .i64, .i .u64])
theorem f37 : flatK P 100 37 = some kT := by kernel_rfl
theorem fitT (t : Tb) : Fit kT (tbC t) := Fit.join (fitS t.a) (Fit.join (fitS t.b) ⟨rfl, rfl, rfl, trivial⟩)
theorem eq37 (t t' : Tb) (c : Bool) : (binC P .eql 37 c).f (agg (tbC t)) (agg (tbC t')) = some (.bool (eqCells (tbC t) (tbC t'))) := bin_eql_f f37 (by kernel_rfl) (by kernel_rfl) (fitT t) (fitT t')
theorem eqT_self (t : Tb) : eqCells (tbC t) (tbC t) = true := eqCells_self (fitT t)
theorem neq37 {t t' : Tb} (h : tbC t = tbC t') (c : Bool) : (binC P .neq 37 c).f (agg (tbC t)) (agg (tbC t')) = some (.bool false) := by
  rw [h]
  rw [bin_neq_f f37 (by kernel_rfl) (by kernel_rfl) (fitT t') (fitT t'), eqCells_self (fitT t')]; rfl
def mt (A B : Nat) : Mp := ⟨Dv.new 60 10000, spansFrom 0 [A, B], 0, []⟩
theorem bsInt2 (a b : Int) (H : Heap) : (buildSliceC P 126 2).f [(0, int a), (1, int b)] H = some (sl H.next 0 2 3, H.push [int a, int b]) := by kernel_rfl
theorem topen_spec (hO : St H Γ) (hA : 1 ≤ A) (hB : 1 ≤ B) (hs : A + B ≤ 60) (hk : ∀ H' L, St H' (Γ ++ MW L (mt A B)) → Mown L (mt A B) → K (ptr L.pm 0) H') : wCall P n_law11_open [agg [int A, int B]] H K := by
  apply law11_open_ok; unfold law11_open
  refine new_at hO ?_
  clear hO
  intro p1 H hO
  replace hO : St H (Γ ++ [(p1, ⟨[int A, int B], true⟩)]) := hO
  refine dNew_spec (n := 60) (w := 10000) (by omega) (by omega) hO ?_
  intro H2 pd pc hO2
  refine opP_i (idxPtr_ok (by omega) (by omega)) ?_
  refine load_at hO2 (Γ.length + 0) (at_l (at_r rfl)) (v := int A) rfl ?_
  refine ⟨same_at hO (Γ.length + 0) (at_r rfl) hO2 (Γ.length + 0) (at_l (at_r rfl)) rfl, ?_⟩
  refine opP_i (idxPtr_ok (by omega) (by omega)) ?_
  refine load_at hO2 (Γ.length + 0) (at_l (at_r rfl)) (v := int B) rfl ?_
  refine ⟨same_at hO (Γ.length + 0) (at_r rfl) hO2 (Γ.length + 0) (at_l (at_r rfl)) rfl, ?_⟩
  refine newSl_at hO2 (bsInt2 _ _ _) ?_
  clear hO hO2
  intro q H hO
  replace hO := hO.rot
  refine mNew_spec (sizes := [A, B]) (jz := (Γ ++ [(p1, (⟨[int A, int B], true⟩ : Blk))]).length + 0) (Dv.new_ok (by omega) (by omega)) hO (at_r rfl) (by simp) (by simp) (fun n hn => ?_) ?_ (.inl ⟨rfl, rfl, rfl⟩) ?_
  · simp at hn; rcases hn with rfl | rfl <;> omega
  · show A + (B + 0) ≤ (List.replicate 60 bCell0).length
    rw [List.length_replicate]; omega
  clear hO
  intro H pm ps hO hv
  refine opP_i ext0 ?_
  refine opP_i ext1 ?_
  replace hO : St H (((Γ ++ [(p1, ⟨[int A, int B], true⟩)]) ++ [(q, ⟨[int A, int B], true⟩)]) ++ MW ⟨pm, pd, pc, ps, nilSl, nilSl⟩ (mt A B)) := hO
  exact hk H ⟨pm, pd, pc, ps, nilSl, nilSl⟩ (hO.keepP (R := [(p1, ⟨[int A, int B], true⟩)] ++ [(q, ⟨[int A, int B], true⟩)]) (by classical exact List.perm_iff_count.2 fun _ => by simp only [List.count_append, List.count_nil, List.set_cons_zero]; omega)) hv
theorem two_mt (hs : A + B ≤ 60) : Two (mt A B) A B := ⟨⟨[], by show (0, A) :: (0 + A, B) :: [] = _; rw [Nat.zero_add]⟩, by show A + B ≤ (List.replicate 60 bCell0).length; rw [List.length_replicate]; omega⟩
theorem kp_mt (j : Nat) : j < 60 → kp (mt A B).d j = blank := fun h => by
  show ((List.replicate 60 bCell0).getD j zCell).kept = _
  rw [List.getD_eq_getElem?_getD, List.getElem?_replicate, if_pos h]; rfl
theorem sn_mt (j : Nat) : sn (mt A B).d j = kp (mt A B).d j := by
  show ((List.replicate 60 bCell0).getD j zCell).seen = ((List.replicate 60 bCell0).getD j zCell).kept
  rw [List.getD_eq_getElem?_getD, List.getElem?_replicate]
  split <;> rfl
theorem wr_mt (j : Nat) : wr (mt A B).d j = 0 := by
  show ((List.replicate 60 bCell0).getD j zCell).wear = _
  rw [List.getD_eq_getElem?_getD, List.getElem?_replicate]
  split <;> rfl
theorem bk_mt (hs : A + B ≤ 60) {b : Int} (hb : Bit b) : bk (mt A B).d A B b = List.replicate (siz A B b) blank := by
  apply List.ext_getElem
  · rw [bk_len, List.length_replicate]
  · intro y g1 g2
    rw [bk_get, List.getElem_replicate]
    rw [bk_len] at g1
    apply kp_mt
    have := two_fit (two_mt hs) hb g1
    show _ < 60
    have e : (mt A B).d.cells.length = 60 := List.length_replicate
    omega
theorem mt_ok (hs : A + B ≤ 60) : (mt A B).Ok := by
  have e : (mt A B).d.cells.length = 60 := List.length_replicate
  refine ⟨Dv.new_ok (by omega) (by omega), fun x hx => ?_, by show 2 ≤ 16; omega⟩
  rw [e]
  have hx : x ∈ [(0, A), (0 + A, B)] := hx
  simp at hx
  rcases hx with rfl | rfl <;> simp <;> omega
theorem mt_inv (hs : A + B ≤ 60) : Use A B 0 (jOpen (mt A B) 0 1) (mt A B) ∧ Up (jOpen (mt A B) 0 1) (mt A B) A B [] ∧ (jStand (mt A B) 0 1).bodies = [] ∧ (jOpen (mt A B) 0 1).ready = false := by
  have h2 := two_mt hs
  have hj : Jst (mt A B).d A B 1 0 0 [] := by
    have hst : fStands (bk (mt A B).d A B 1) = row0 := by rw [bk_mt hs (.inr rfl)]; exact stands_none fGet_blank
    have hbl : ∀ {n : Nat} {F : Nat}, HeadLt (List.replicate n blank) F := fun {n F} s r e g => by
      have : s ∈ List.replicate n blank := by rw [e]; exact List.mem_cons_self
      rw [List.eq_of_mem_replicate this] at g
      exact absurd g (by decide)
    refine ⟨.inr rfl, by rw [hst]; rfl, by rw [hst]; rfl, fun h => absurd rfl h, fun _ => ⟨rfl, rfl⟩, Nat.le_refl _, ?_, ?_⟩
    · have e : (1 : Int) - 1 = 0 := rfl
      rw [e, bk_mt hs (.inl rfl)]; exact hbl.oth
    · rw [bk_mt hs (.inr rfl)]; exact hbl
  obtain ⟨o1, o2⟩ := jst_open h2 sn_mt hj
  rw [o1, o2]
  exact ⟨⟨⟨h2, fun j => by rw [wr_mt]; omega, rfl⟩, mt_ok hs, ⟨.inr rfl, by show 0 ≤ _; omega, by show (0 : Int) ≤ 0 ∧ (0 : Int) ≤ _; omega⟩, ⟨rfl, rfl⟩, ⟨Nat.zero_le _, Nat.zero_le _⟩, new_bd, Nat.zero_le _, .inr rfl⟩, ⟨rfl, rfl, sn_mt, 0, hj, fun h => by cases h⟩, rfl, rfl⟩
theorem tbz_right : TRight tbz := by decide
theorem mLimit_spec {n : Int} (hO : St H (Γ ++ MW L m)) (hk : ∀ H', St H' (Γ ++ MW L { m with d := m.d.limit n }) → K (.tuple [].toArray) H') : wCall P n_flash_Device_Budget [ptr L.pd 0, int n] H K := by
  refine dBudget_spec (MW.toD hO) ?_
  intro H' h
  exact hk H' (MW.ofD (L := L) (m := { m with d := m.d.limit n }) h)
theorem mRestart_spec {ks : List Int} (ok : m.d.Ok) (hd : m.d.done.length ≤ 1000000) (hO : St H (Γ ++ MW L m)) (hv : Mown L m) (hw : RdB Γ w ks) (hb : By ks)
    (hk : ∀ H', St H' (Γ ++ MW { L with vd := nilSl } { m with d := m.d.restart ks }) → Mown { L with vd := nilSl } { m with d := m.d.restart ks } → K (.tuple [].toArray) H') : wCall P n_flash_Device_Restart [ptr L.pd 0, w] H K := by
  refine dRestart_spec ok hd (MW.toD hO) hv.d hw.app.app hb ?_
  intro H' h
  exact hk H' (MW.ofD (L := { L with vd := nilSl }) (m := { m with d := m.d.restart ks }) h) ⟨.inl ⟨rfl, rfl, rfl⟩, hv.o⟩
theorem limit_inv {n : Int} {now : List (List Int)} {maybe : List (List (List Int))} {t : Jn} (h : HInv A B k t m now maybe) (hn : n ≤ 9223372036854775807) : HInv A B k t { m with d := m.d.limit n } now maybe := by
  obtain ⟨hu, hs⟩ := h
  have hd := hu.ok.d
  refine ⟨⟨⟨⟨hu.wd.two.sp, hu.wd.two.fit⟩, hu.wd.wear, hu.wd.most⟩, ⟨⟨hd.c, hd.n, hd.ds, hd.m, by show -1 ≤ max n (-1) ∧ max n (-1) ≤ _; omega⟩, hu.ok.s, hu.ok.n⟩, hu.jok, hu.jab, hu.sm, ⟨hu.bd.c, hu.bd.w⟩, hu.lk, hu.bit⟩, ?_⟩
  rcases hs with ⟨h, h0⟩ | h
  · refine .inl ⟨⟨h.up, h.done, h.sk, ?_⟩, h0⟩
    obtain ⟨F, hj, hr⟩ := h.st
    exact ⟨F, ⟨hj.i01, hj.bod, hj.lst, hj.fst, hj.nil, hj.le, hj.oth, hj.own⟩, hr⟩
  · exact .inr ⟨h.dn, ⟨h.wt.nd, h.wt.lt, h.wt.p, h.wt.n⟩, h.nr, fun d' ha => h.nw d' ⟨ha.len, ha.m, ha.w, ha.s, ha.n, ha.t, ha.wr, ha.up, ha.bud⟩⟩
theorem limit_store {n : Int} {mays : List Tb} (h : SInv A B k t jn m mays) (hn : n ≤ 9223372036854775807) : SInv A B k t jn { m with d := m.d.limit n } mays := by
  obtain ⟨b, mb, hi, h2, h3⟩ := h.i
  exact ⟨h.r, h.w, h.mr, b, mb, limit_inv hi hn, h2, h3⟩
theorem SInv.mono {k' : Nat} {mays : List Tb} (h : SInv A B k t jn m mays) (hk : k ≤ k') : SInv A B k' t jn m mays := by
  obtain ⟨b, mb, hi, h2, h3⟩ := h.i
  exact ⟨h.r, h.w, h.mr, b, mb, hi.mono hk, h2, h3⟩
structure Act where
  kind : Int
  n : Int
  vc : Value
  chs : List Ch
  vk : Value
  kept : List Int
def actC (a : Act) : List Value := [int a.kind, int a.n, a.vc, a.vk]
def ArgB (Γ : List (Nat × Blk)) (v : Value) (xs : List Int) : Prop := (v = nilSl ∧ xs = []) ∨ ∃ (p j : Nat), v = sl p 0 xs.length 2 ∧ Γ[j]? = some (p, (⟨by8 xs, false⟩ : Blk))
theorem ArgB.rd (h : ArgB Γ v xs) : RdB Γ v xs := by
  rcases h with h | ⟨p, j, h1, h2⟩
  · exact .inl h
  · exact .inr ⟨p, 0, 2, h1, .inl rfl, .inr ⟨j, _, h2, by rw [List.drop_zero]; exact List.take_of_length_le (by rw [by8_len]; omega)⟩⟩
theorem ArgB.app (h : ArgB Γ v xs) : ArgB (Γ ++ Δ) v xs := by
  rcases h with h | ⟨p, j, h1, h2⟩
  · exact .inl h
  · exact .inr ⟨p, j, h1, at_l h2⟩
theorem argB_l (h : ArgB Δ v xs) : ArgB (Γ ++ Δ) v xs := by
  rcases h with h | ⟨p, j, h1, h2⟩
  · exact .inl h
  · exact .inr ⟨p, Γ.length + j, h1, at_r h2⟩
def ArgC (Γ : List (Nat × Blk)) (v : Value) (l : List Ch) : Prop := (v = nilSl ∧ l = []) ∨ ∃ (p j : Nat), v = sl p 0 l.length 80 ∧ Γ[j]? = some (p, (⟨chs l, false⟩ : Blk))
theorem ArgC.rd (h : ArgC Γ v l) : RdC Γ v l := by
  rcases h with ⟨rfl, rfl⟩ | ⟨p, j, rfl, h⟩
  · exact ⟨rfl, .inl rfl⟩
  · exact ⟨rfl, .inr ⟨p, 80, j, rfl, false, h⟩⟩
theorem ArgC.app (h : ArgC Γ v l) : ArgC (Γ ++ Δ) v l := by
  rcases h with h | ⟨p, j, h1, h2⟩
  · exact .inl h
  · exact .inr ⟨p, j, h1, at_l h2⟩
theorem argC_l (h : ArgC Δ v l) : ArgC (Γ ++ Δ) v l := by
  rcases h with h | ⟨p, j, h1, h2⟩
  · exact .inl h
  · exact .inr ⟨p, Γ.length + j, h1, at_r h2⟩
structure Act.Rd (Γ : List (Nat × Blk)) (a : Act) : Prop where
  c : ArgC Γ a.vc a.chs
  cb : ∀ c ∈ a.chs, CBy c
  k : ArgB Γ a.vk a.kept
  kb : By a.kept
  n : a.n ≤ 9223372036854775807
theorem Act.Rd.app {a : Act} (h : a.Rd Γ) : a.Rd (Γ ++ Δ) := ⟨h.c.app, h.cb, h.k.app, h.kb, h.n⟩
theorem Act.Rd.app' {a : Act} (h : a.Rd Δ) : a.Rd (Γ ++ Δ) := ⟨argC_l h.c, h.cb, argB_l h.k, h.kb, h.n⟩
def RdActs (Γ : List (Nat × Blk)) (v : Value) (l : List Act) : Prop := ((v = nilSl ∧ l = []) ∨ ∃ (p c j : Nat) (w : Bool), v = sl p 0 l.length c ∧ Γ[j]? = some (p, (⟨l.flatMap actC, w⟩ : Blk))) ∧ ∀ a ∈ l, a.Rd Γ
theorem RdActs.app {l : List Act} (h : RdActs Γ v l) : RdActs (Γ ++ Δ) v l := by
  refine ⟨?_, fun a ha => (h.2 a ha).app⟩
  rcases h.1 with h | ⟨p, c, j, w, h1, h2⟩
  · exact .inl h
  · exact .inr ⟨p, c, j, w, h1, at_l h2⟩
theorem RdActs.lenSl {l : List Act} (h : RdActs Γ v l) : Ab.lenSl v H = some (int l.length, H) := by
  rcases h.1 with ⟨rfl, rfl⟩ | ⟨p, c, j, w, rfl, _⟩ <;> rfl
theorem RdActs.at {l : List Act} {K : Value → Heap → Prop} (hO : St H Γ) (h : RdActs Γ v l) {i : Nat} (hi : i < l.length) (hk : K (agg (actC l[i])) H) : opP (idxSl 4 v (int i)) fun t => opW (loadAgg 4 t H) K := by
  rcases h.1 with ⟨rfl, rfl⟩ | ⟨p, c, j, w, rfl, hj⟩
  · simp at hi
  · refine opP_i (idxSl_ok (by omega) (by omega)) ?_
    have hf := flat_at (f := actC) (l := l) (n := 4) (o := 0) (m := 4) (fun x _ => rfl) hi (by omega)
    rw [Nat.zero_add, Int.toNat_natCast]
    refine loadAgg_at hO j hj (show _ = actC l[i] from ?_) rfl (by omega) hk
    rw [Nat.add_zero] at hf
    rw [hf, List.drop_zero]
    exact List.take_of_length_le (Nat.le_refl _)
theorem ArgB.shape (h : ArgB Γ v xs) : ∃ a n c, v = .slice a n c := by
  rcases h with ⟨rfl, _⟩ | ⟨p, j, rfl, _⟩ <;> exact ⟨_, _, _, rfl⟩
theorem RdC.shape (h : ArgC Γ v l) : v = nilSl ∨ ∃ p n c, v = sl p 0 n c := by
  rcases h with ⟨rfl, _⟩ | ⟨p, j, rfl, hj⟩
  · exact .inl rfl
  · exact .inr ⟨_, _, _, rfl⟩
theorem act_one {a : Act} (h : a.Rd Γ) : (actC a).all oneCell = true := by
  obtain ⟨x, n, c, e⟩ := ArgB.shape h.k
  unfold actC
  rcases RdC.shape h.c with e2 | ⟨p, n, c, e2⟩ <;> rw [e, e2] <;> rfl
theorem act_simple {a : Act} (h : a.Rd Γ) : (actC a).all simpleB = true := by
  have h1 : simpleB a.vk = true := by
    rcases h.k with ⟨h, _⟩ | ⟨p, j, h, _⟩ <;> rw [h] <;> rfl
  have h2 : simpleB a.vc = true := by
    rcases RdC.shape h.c with h | ⟨p, n, c, h⟩ <;> rw [h] <;> rfl
  simp [actC, h1, h2]
  exact ⟨rfl, rfl⟩
theorem zcAct : zc P 72 = [int 0, int 0, nilSl, nilSl] := by kernel_rfl
theorem bsT0 (H : Heap) : (buildSliceC P 70 0).f [] H = some (sl H.next 0 0 151, H.push []) := by kernel_rfl
theorem bsT1 (t : Tb) (H : Heap) : (buildSliceC P 70 1).f [(0, agg (tbC t))] H = some (sl H.next 0 1 151, H.push (tbC t)) := by kernel_rfl
def tbs (l : List Tb) : List Value := l.flatMap tbC
theorem tbs_at (l : List Tb) {i : Nat} (h : i < l.length) : ((tbs l).drop (i * 75)).take 75 = tbC l[i] := by
  have hf := flat_at (f := tbC) (l := l) (n := 75) (o := 0) (m := 75) (fun x _ => rfl) h (by omega)
  rw [Nat.add_zero] at hf
  unfold tbs
  rw [hf, List.drop_zero]
  exact List.take_of_length_le (Nat.le_refl _)
end J
set_option linter.unusedVariables false
set_option linter.unusedSimpArgs false
set_option maxRecDepth 100000
namespace J
open Go Go.Ab
variable {H : Heap} {Γ Γ0 Γ2 Δ M G : List (Nat × Blk)} {K : Value → Heap → Prop} {v w x : Value} {xs ys bs body : List Int} {j p : Nat} {e : Int} {ss tt bb : List (List Int)}
variable {L : Mloc} {m : Mp} {s : List Int} {pj ps A B k : Nat} {jn : Jn} {vals cs : List Value} {t next first : Tb} {l : List Ch}
theorem eqNil (p o : Nat) : (binC P .eql 23 true).f (ptr p o) (.pointer none) = some (.bool false) := by kernel_rfl
def fnd (t : Tb) (l : List Tb) : Bool := l.any fun u => eqCells (tbC t) (tbC u)
theorem fnd_take {l : List Tb} {y : Nat} (h : y < l.length) : fnd t (l.take (y + 1)) = (fnd t (l.take y) || eqCells (tbC t) (tbC l[y])) := by
  unfold fnd
  rw [List.take_succ_eq_append_getElem h, List.any_append]
  simp
theorem tholds_L1 {a0 a1 a3 a6 a7 a8 mayv : Value} {mays : List Tb} {b0 : Bool} {n : Nat} {Qx : Nat → List Value → Heap → Prop} {Qr : List Value → Heap → Prop}
    (hO : St H Γ) {js jm : Nat} (hjs : Γ[js]? = some (ps, ⟨ptr pj 0 :: tbC t, true⟩)) (hm : mays.length = 0 ∨ ∃ p c, mayv = sl p 0 mays.length c ∧ Γ[jm]? = some (p, ⟨tbs mays, true⟩)) (hml : mays.length ≤ 1000)
    (hk : ∀ H' Δ, St H' (Γ ++ Δ) → Qx 3 [a0, a1, ptr ps 0, a3, mayv, .bool (b0 || fnd t mays), a6, a7, a8] H') (hn : n = mays.length) :
    wLoop P true 159 law11_TableHolds_P1 63050394783220592 [a0, a1, ptr ps 0, a3, mayv, .bool b0, a6, a7, a8, mayv, int n, int 0] H Qx Qr := by
  subst hn
  refine law11_TableHolds_L1_ind (fun k l' H' => ∃ (y : Nat) (Δ : List (Nat × Blk)), y ≤ mays.length ∧ k = mays.length - y ∧ l' = [a0, a1, ptr ps 0, a3, mayv, .bool (b0 || fnd t (mays.take y)), a6, a7, a8, mayv, int mays.length, int y] ∧ St H' (Γ ++ Δ)) _ _ ?_ mays.length _ _ ⟨0, [], by omega, rfl, by simp [fnd], by rw [List.append_nil]; exact hO⟩
  clear hO
  rintro k l' H ⟨y, Δ, hy, rfl, rfl, hO⟩
  unfold law11_TableHolds_L1
  try simp only [nth_zero, nth_succ]
  refine opP_i bin_lss ?_
  refine wIf_dec (fun h => ?_) (fun h => ?_)
  · have hyl : y < mays.length := by omega
    rcases hm with h0 | ⟨p, c, rfl, hj⟩
    · omega
    have hf := fnd_take (t := t) hyl
    have hadd : (binC P .add 3 true).f (int y) (.int .i64 1) = some (int ((y + 1 : Nat) : Int)) := by rw [show ((y + 1 : Nat) : Int) = (y : Int) + 1 by omega]; exact bin_addi (by omega) (by omega)
    refine opP_i (idxSl_ok (by omega) (by omega)) ?_
    rw [Nat.zero_add, Int.toNat_natCast]
    refine loadAgg_at hO jm (at_l hj) (show _ = tbC mays[y] from tbs_at mays hyl) rfl (by omega) ?_
    rw [zc29]
    refine new_at hO ?_
    clear hO
    intro p17 H hO
    refine storeAll_at hO (_ + 0) (at_r rfl) rfl rfl rfl ?_
    clear hO
    intro H hO
    replace hO := hO.set_r
    replace hO : St H (Γ ++ (Δ ++ [(p17, ⟨tbC mays[y], true⟩)])) := by rw [← List.append_assoc]; exact hO
    have hp17 : (Γ ++ (Δ ++ [(p17, (⟨tbC mays[y], true⟩ : Blk))]))[Γ.length + (Δ.length + 0)]? = some (p17, ⟨tbC mays[y], true⟩) := at_r (at_r rfl)
    refine wIf_intro (fun h2 => ?_) (fun h2 => ?_)
    · refine opP_i (by rw [h2]; rfl) ?_
      refine opP_i hadd ?_
      refine ⟨_, by omega, y + 1, _, by omega, rfl, ?_, hO⟩
      rw [hf, ← Bool.or_assoc, h2]; rfl
    · refine tTable_spec hO (at_l hjs) ?_
      intro H2 hO2
      refine loadAll_at hO2 _ hp17 rfl (by omega) ?_
      refine ⟨same_at hO _ hp17 hO2 _ hp17 rfl, ?_⟩
      refine opP_i (eq37 _ _ _) ?_
      refine opP_i (by rw [h2]; rfl) ?_
      refine opP_i hadd ?_
      refine ⟨_, by omega, y + 1, _, by omega, rfl, ?_, hO2⟩
      rw [hf, ← Bool.or_assoc, h2]; rfl
  · have ey : y = mays.length := by omega
    subst ey
    rw [List.take_of_length_le (Nat.le_refl _)]
    exact hk _ _ hO
structure LS (A B y : Nat) (acts : List Act) (actsv : Value) (Γ0 : List (Nat × Blk)) (t : Tb) (jn : Jn) (m : Mp) (L : Mloc) (mayv : Value) (mays : List Tb) : Prop where
  own : Mown L m
  actr : RdActs Γ0 actsv acts
  may : Own 75 mayv mays.length (tbs mays)
  ml : mays.length ≤ y
  inv : SInv A B y t jn m mays
abbrev NB (p8 : Nat) (t : Tb) : List (Nat × Blk) := [(p8, ⟨tbC t, true⟩)]
theorem tb_sec (h2 : Two m A B) (hA : A ≤ 30) (hB : B ≤ 30) (hbd : BD m.d) : ∀ x ∈ (jStand m 0 1).bodies, x.length ≤ 1000000 := by
  have h : ∀ (n want : Nat) (ss : List (List Int)) (out : Row), (∀ x ∈ out.bodies, x.length ≤ 1000000) → ∀ x ∈ (standsGo n want ss out).bodies, x.length ≤ 1000000 := by
    intro n
    induction n with
    | zero => intro want ss out ho; exact ho
    | succ n ih =>
      intro want ss out ho
      show ∀ x ∈ (if stStop want (fGet ss) out then out else standsGo n 2 (ss.drop (fGet ss).many) (stNext want (fGet ss) out)).bodies, x.length ≤ 1000000
      split
      · exact ho
      · refine ih 2 _ _ fun x hx => ?_
        have hx : x ∈ out.bodies ++ [(fGet ss).body] := hx
        rcases List.mem_append.1 hx with hx | hx
        · exact ho x hx
        · rw [List.mem_singleton.1 hx]
          unfold fGet
          match ss with
          | [] => simp [fr0]
          | s :: r =>
            simp only
            split
            · simp [fr0]
            split
            · simp [fr0]
            · show (fBody (s :: r) s).length ≤ _
              rename_i hbad _
              unfold fBody
              rw [List.length_take]
              have : fSize (hLen s) ≠ 0 := fun h0 => hbad (.inr (.inl h0))
              unfold fSize at this
              by_cases h4 : (hLen s : Int) < 0 ∨ 4000 < (hLen s : Int)
              · rw [if_pos h4] at this; exact absurd rfl this
              · omega
  unfold jStand
  split
  · exact h _ _ _ _ (fun x hx => by cases hx)
  · exact h _ _ _ _ (fun x hx => by cases hx)
set_option maxHeartbeats 8000000 in
theorem tholds_L0 {acts : List Act} {actsv : Value} {jn0 : Jn} {mayv0 : Value} {p8 : Nat} {Qx : Nat → List Value → Heap → Prop} {Qr : List Value → Heap → Prop} {n : Nat}
    (hA : A ≤ 30) (hB : B ≤ 30) (hA2 : 2 ≤ A) (hB2 : 2 ≤ B) (hn : n = acts.length) (hn60 : n ≤ 60)
    (hO : St H (((((G ++ outB mayv0 []) ++ NB p8 tbz) ++ SB ps pj tbz) ++ JB pj L.pm jn0) ++ MW L m)) (hls : LS A B 0 acts actsv G tbz jn0 m L mayv0 [])
    (hx : ∀ H', Qx 0 [.bool false] H') (hr : ∀ H', Qr [.bool true] H') :
    wLoop P true 159 law11_TableHolds_P0 16 [.bool false, ptr L.pm 0, ptr ps 0, ptr p8 0, mayv0, actsv, int n, int 0] H Qx Qr := by
  subst hn
  refine law11_TableHolds_L0_ind (fun k l' H' => ∃ (y : Nat) (Γ0 : List (Nat × Blk)) (t : Tb) (jn : Jn) (m : Mp) (L : Mloc) (ps pj : Nat) (mayv : Value) (mays : List Tb), y ≤ acts.length ∧ k = acts.length - y ∧ l' = [.bool false, ptr L.pm 0, ptr ps 0, ptr p8 0, mayv, actsv, int acts.length, int y] ∧ St H' (((((Γ0 ++ outB mayv (tbs mays)) ++ NB p8 t) ++ SB ps pj t) ++ JB pj L.pm jn) ++ MW L m) ∧ LS A B y acts actsv Γ0 t jn m L mayv mays) _ _ ?_ acts.length _ _ ⟨0, G, tbz, jn0, m, L, ps, pj, mayv0, [], by omega, by omega, rfl, hO, hls⟩
  clear hO hls
  rintro k l' H ⟨y, Γ0, t, jn, m, L, ps, pj, mayv, mays, hy, rfl, rfl, hO, ls⟩
  unfold law11_TableHolds_L0
  try simp only [nth_zero, nth_succ]
  refine opP_i bin_lss ?_
  refine wIf_dec (fun h => ?_) (fun h => ?_)
  rotate_left
  · exact hx _
  have hyl : y < acts.length := by omega
  obtain ⟨a, ha⟩ : ∃ a, a = acts[y] := ⟨_, rfl⟩
  have hrd0 : a.Rd Γ0 := by rw [ha]; exact ls.actr.2 _ (List.getElem_mem hyl)
  refine RdActs.at (l := acts) hO ls.actr.app.app.app.app.app hyl ?_
  rw [← ha]
  have hadd : (binC P .add 3 true).f (int y) (.int .i64 1) = some (int ((y + 1 : Nat) : Int)) := by rw [show ((y + 1 : Nat) : Int) = (y : Int) + 1 by omega]; exact bin_addi (by omega) (by omega)
  rw [zcAct]
  refine new_at hO ?_
  clear hO
  intro p11 H hO
  refine storeAll_at hO (_ + 0) (at_r rfl) rfl (show (actC a).length = 4 from rfl) (act_one hrd0) ?_
  clear hO
  intro H hO
  replace hO := hO.set_r
  replace hO : St H ((((((Γ0 ++ [(p11, ⟨actC a, true⟩)]) ++ outB mayv (tbs mays)) ++ NB p8 t) ++ SB ps pj t) ++ JB pj L.pm jn) ++ MW L m) := hO.perm (by classical exact List.perm_iff_count.2 fun _ => by simp only [List.count_append, List.count_nil, List.set_cons_zero]; omega)
  have hactr : RdActs (Γ0 ++ [(p11, (⟨actC a, true⟩ : Blk))]) actsv acts := ls.actr.app
  have hrd : a.Rd (Γ0 ++ [(p11, (⟨actC a, true⟩ : Blk))]) := hrd0.app
  obtain ⟨Γ1, hΓ1⟩ : ∃ Γ1, Γ1 = Γ0 ++ [(p11, (⟨actC a, true⟩ : Blk))] := ⟨_, rfl⟩
  have hp11 : Γ1[Γ0.length + 0]? = some (p11, ⟨actC a, true⟩) := by rw [hΓ1]; exact at_r rfl
  rw [← hΓ1] at hO hactr hrd
  clear hrd0 hΓ1
  have hinv := ls.inv
  have use := hinv.use
  have hml := ls.ml
  have i11 : ∀ {R1 R2 R3 R4 R5 : List (Nat × Blk)}, (((((Γ1 ++ R1) ++ R2) ++ R3) ++ R4) ++ R5)[Γ0.length + 0]? = some (p11, ⟨actC a, true⟩) := at_l (at_l (at_l (at_l (at_l hp11))))
  have i8 : ∀ {t' : Tb} {R1 R3 R4 R5 : List (Nat × Blk)}, (((((Γ1 ++ R1) ++ NB p8 t') ++ R3) ++ R4) ++ R5)[(Γ1 ++ R1).length + 0]? = some (p8, ⟨tbC t', true⟩) := at_l (at_l (at_l (at_r rfl)))
  refine join_with (fun l' H' => l' = [.bool false, ptr L.pm 0, ptr ps 0, ptr p8 0, mayv, ptr p11 0, actsv, int acts.length, int y] ∧ H' = H ∧ a.chs.length ≤ 20) ?_ ?_
  · refine opP_i offPtr_ptr ?_
    refine load_at hO (Γ0.length + 0) i11 (v := a.vc) rfl ?_
    refine opW_i (by rw [hrd.c.rd.1]) ?_
    refine opP_i bin_gtr ?_
    refine wIf_dec (fun h4 => ?_) (fun h4 => ?_)
    · rw [decide_eq_true h4]
      refine opP_i pick_true ?_
      refine wIf_t rfl ?_
      exact hr _
    rw [decide_eq_false h4]
    refine opP_i offPtr_ptr ?_
    refine load_at hO (Γ0.length + 0) i11 (v := a.vk) rfl ?_
    refine opW_i hrd.k.rd.lenSl ?_
    refine opP_i bin_gtr ?_
    refine opP_i pick_false ?_
    refine wIf_dec (fun h5 => ?_) (fun h5 => ?_)
    · exact hr _
    · exact ⟨rfl, rfl, by omega⟩
  rintro l' H' ⟨rfl, rfl, hlen⟩
  try simp only [nth_zero, nth_succ]
  refine join_with (fun l' H' => ∃ (Γ0 : List (Nat × Blk)) (t : Tb) (jn : Jn) (m : Mp) (L : Mloc) (ps pj : Nat) (mayv : Value) (mays : List Tb), l' = [.bool false, ptr L.pm 0, ptr ps 0, ptr p8 0, mayv, actsv, int acts.length, int y] ∧ St H' (((((Γ0 ++ outB mayv (tbs mays)) ++ NB p8 t) ++ SB ps pj t) ++ JB pj L.pm jn) ++ MW L m) ∧ LS A B (y + 1) acts actsv Γ0 t jn m L mayv mays) ?_ ?_
  rotate_left
  · -- at the end of each round
    clear hO
    rintro l' H ⟨Γ0, t, jn, m, L, ps, pj, mayv, mays, rfl, hO, ls⟩
    try simp only [nth_zero, nth_succ]
    refine tTable_spec hO (j := ((Γ0 ++ outB mayv (tbs mays)) ++ NB p8 t).length + 0) (at_l (at_l (at_r rfl))) ?_
    intro H2 hO2
    have i9 : (((((Γ0 ++ outB mayv (tbs mays)) ++ NB p8 t) ++ SB ps pj t) ++ JB pj L.pm jn) ++ MW L m)[(Γ0 ++ outB mayv (tbs mays)).length + 0]? = some (p8, ⟨tbC t, true⟩) := at_l (at_l (at_l (at_r rfl)))
    refine loadAll_at hO2 _ i9 rfl (by omega) ?_
    refine ⟨same_at hO _ i9 hO2 _ i9 rfl, ?_⟩
    refine opP_i (neq37 rfl _) ?_
    refine wIf_f rfl ?_
    refine opP_i hadd ?_
    exact ⟨_, by omega, y + 1, Γ0, t, jn, m, L, ps, pj, mayv, mays, by omega, rfl, rfl, hO2, ls⟩
  refine opP_i offPtr_ptr ?_
  refine load_at hO (Γ0.length + 0) i11 (v := int a.kind) rfl ?_
  refine opP_i bin_eql ?_
  refine wIf_dec (fun hk0 => ?_) (fun hk0 => ?_)
  · -- a transaction
    refine loadAll_at hO _ i8 rfl (by omega) ?_
    refine opP_i offPtr_ptr ?_
    refine load_at hO (Γ0.length + 0) i11 (v := a.vc) rfl ?_
    refine table_Apply_spec hO hrd.c.rd.app.app.app.app.app (by omega) ?_
    clear hO
    intro H hO
    refine opP_i ext0 ?_
    refine opP_i ext1 ?_
    rw [zc29]
    refine new_at hO ?_
    clear hO
    intro p12 H hO
    refine storeAll_at hO (_ + 0) (at_r rfl) rfl rfl rfl ?_
    clear hO
    intro H hO
    replace hO := hO.set_r
    replace hO : St H ((((((Γ1 ++ [(p12, ⟨tbC (tApply t a.chs).1, true⟩)]) ++ outB mayv (tbs mays)) ++ NB p8 t) ++ SB ps pj t) ++ JB pj L.pm jn) ++ MW L m) := hO.perm (by classical exact List.perm_iff_count.2 fun _ => by simp only [List.count_append, List.count_nil, List.set_cons_zero]; omega)
    refine opP_i offPtr_ptr ?_
    refine load_at hO (Γ0.length + 0) (at_l i11) (v := a.vc) rfl ?_
    have hd := do_inv hinv (by omega) hA2 hB2 hrd.cb
    simp only at hd
    have hup : (tApply t a.chs).2 = 0 → TW (tApply t a.chs).1 := fun _ => apply_tw hinv.w hrd.cb
    refine do_spec (N := 5000 * y) use.ok use.jok use.sm (by omega) hrd.c.rd.app.app.app (by omega) (fun c h => (hrd.cb c h).2) (fun h => (hup h).f) (By_lBy hrd.cb) (fun h => By_tBy (hup h).a (hup h).b) hO ls.own ?_
    clear hO
    intro H L2 he hO own2
    generalize tDo t jn m a.chs = D at *
    generalize hE : (tApply t a.chs).2 = E at *
    generalize (tApply t a.chs).1 = nx at *
    have i12 : ∀ {t1 : Tb} {R1 R2 R3 R4 R5 : List (Nat × Blk)}, ((((((Γ1 ++ [(p12, (⟨tbC nx, true⟩ : Blk))]) ++ R1) ++ R2) ++ R3) ++ R4) ++ R5)[Γ1.length + 0]? = some (p12, ⟨tbC nx, true⟩) := at_l (at_l (at_l (at_l (at_l (at_r rfl)))))
    refine join_with (fun l' H' => l' = [.bool false, ptr L.pm 0, ptr ps 0, ptr p8 0, mayv, ptr p12 0, int D.2.2.2, actsv, int acts.length, int y] ∧ H' = H) ?_ ?_
    · rcases hd with ⟨rfl, rfl⟩ | ⟨rfl, ⟨h0, _⟩ | ⟨h0, _⟩⟩
      · refine opP_i (v := .bool true) (by rw [bin_neq]; rfl) ?_
        refine opP_i (v := .bool true) (by rw [bin_eql]; rfl) ?_
        refine opP_i (v := .bool false) (by rw [bin_neq_b u4]; rfl) ?_
        refine wIf_f rfl ?_
        refine opP_i (v := .bool true) (by rw [bin_neq]; rfl) ?_
        refine wIf_t rfl ?_
        refine opP_i (v := .bool false) (by rw [bin_neq]; rfl) ?_
        refine opP_i pick_true ?_
        refine wIf_f rfl ?_
        refine opP_i pick_false ?_
        refine opP_i pick_false ?_
        refine wIf_f rfl ?_
        exact ⟨rfl, rfl⟩
      · rw [h0]
        refine opP_i (v := .bool false) (by rw [bin_neq]; rfl) ?_
        refine opP_i (v := .bool false) (by rw [bin_eql]; rfl) ?_
        refine opP_i (v := .bool false) (by rw [bin_neq_b u4]; rfl) ?_
        refine wIf_f rfl ?_
        refine opP_i (v := .bool false) (by rw [bin_neq]; rfl) ?_
        refine wIf_f rfl ?_
        refine opP_i pick_false ?_
        refine opP_i pick_false ?_
        refine opP_i pick_false ?_
        refine wIf_f rfl ?_
        exact ⟨rfl, rfl⟩
      · rw [h0]
        refine opP_i (v := .bool false) (by rw [bin_neq]; rfl) ?_
        refine opP_i (v := .bool false) (by rw [bin_eql]; rfl) ?_
        refine opP_i (v := .bool false) (by rw [bin_neq_b u4]; rfl) ?_
        refine wIf_f rfl ?_
        refine opP_i (v := .bool true) (by rw [bin_neq]; rfl) ?_
        refine wIf_t rfl ?_
        refine opP_i (v := .bool true) (by rw [bin_neq]; rfl) ?_
        refine opP_i pick_true ?_
        refine wIf_t rfl ?_
        refine opP_i (v := .bool false) (by rw [bin_neq]; rfl) ?_
        refine opP_i pick_true ?_
        refine opP_i pick_false ?_
        refine wIf_f rfl ?_
        exact ⟨rfl, rfl⟩
    rintro l' H' ⟨rfl, rfl⟩
    try simp only [nth_zero, nth_succ]
    have hact2 : RdActs (Γ1 ++ [(p12, (⟨tbC nx, true⟩ : Blk))]) actsv acts := hactr.app
    refine join_with (fun l' H' => ∃ t' : Tb, l' = [.bool false, ptr L.pm 0, ptr ps 0, ptr p8 0, mayv, ptr p12 0, int D.2.2.2, actsv, int acts.length, int y] ∧ t' = (if D.2.2.2 = 0 then nx else t) ∧ St H' ((((((Γ1 ++ [(p12, ⟨tbC nx, true⟩)]) ++ outB mayv (tbs mays)) ++ NB p8 t') ++ SB ps pj D.1) ++ JB pj L2.pm D.2.1) ++ MW L2 D.2.2.1)) ?_ ?_
    · refine opP_i bin_eql ?_
      refine wIf_dec (fun h0 => ?_) (fun h0 => ?_)
      · refine loadAll_at hO (Γ1.length + 0) (at_l (at_l (at_l (at_l (at_l (at_r rfl)))))) rfl (by omega) ?_
        refine storeAll_at hO (((Γ1 ++ [(p12, (⟨tbC nx, true⟩ : Blk))]) ++ outB mayv (tbs mays)).length + 0) (at_l (at_l (at_l (at_r rfl)))) rfl rfl rfl ?_
        clear hO
        intro H hO
        rw [List.set_append_left _ _ (by simp), List.set_append_left _ _ (by simp), List.set_append_left _ _ (by simp), Go.Ab.set_r] at hO
        exact ⟨nx, rfl, by rw [if_pos h0], hO⟩
      · exact ⟨t, rfl, by rw [if_neg h0], hO⟩
    clear hO
    rintro l' H ⟨t', rfl, ht', hO⟩
    try simp only [nth_zero, nth_succ]
    refine opP_i bin_eql ?_
    rw [← he.m]
    refine wIf_dec (fun h0 => ?_) (fun h0 => ?_)
    · rw [if_neg (by omega)] at ht'
      subst ht'
      refine loadAll_at hO (Γ1.length + 0) (at_l (at_l (at_l (at_l (at_l (at_r rfl)))))) rfl (by omega) ?_
      refine newSl_at hO (bsT1 _ _) ?_
      clear hO
      intro q H hO
      replace hO : St H ((((((Γ1 ++ [(p12, ⟨tbC nx, true⟩)]) ++ NB p8 t') ++ SB ps pj D.1) ++ JB pj L2.pm D.2.1) ++ MW L2 D.2.2.1) ++ outB mayv (tbs mays) ++ [(q, ⟨tbC nx, true⟩)]) := hO.perm (by classical exact List.perm_iff_count.2 fun _ => by simp only [List.count_append, List.count_nil, List.set_cons_zero]; omega)
      refine append_elem hO ls.may rfl (by omega) rfl (by omega) (by omega) ?_
      clear hO
      intro mayv' H hO hmay'
      have et : tbs mays ++ tbC nx = tbs (mays ++ [nx]) := by simp [tbs]
      rw [et] at hO hmay'
      rcases hd with ⟨_, rfl⟩ | ⟨_, ⟨h1, _⟩ | ⟨h1, h2, h3⟩⟩
      · cases h0
      · omega
      rw [h2] at hO
      exact ⟨Γ1 ++ [(p12, ⟨tbC nx, true⟩)], t', D.2.1, D.2.2.1, L2, ps, pj, mayv', mays ++ [nx], rfl, hO.perm (by classical exact List.perm_iff_count.2 fun _ => by simp only [List.count_append, List.count_nil, List.set_cons_zero]; omega), ⟨own2, hact2, by rw [List.length_append]; exact hmay', by simp; omega, h3⟩⟩
    · rcases hd with ⟨rfl, rfl⟩ | ⟨rfl, ⟨h1, h2, h3⟩ | ⟨h1, _, _⟩⟩
      · rw [if_neg (show ¬ (111 : Int) = 0 by decide)] at ht'
        subst ht'
        exact ⟨Γ1 ++ [(p12, ⟨tbC nx, true⟩)], t', jn, m, L2, ps, pj, mayv, mays, rfl, hO, ⟨own2, hact2, ls.may, by omega, hinv.mono (by omega)⟩⟩
      · rw [if_pos h1] at ht'
        subst ht'
        rw [h2] at hO h3
        exact ⟨Γ1 ++ [(p12, ⟨tbC t', true⟩)], t', D.2.1, D.2.2.1, L2, ps, pj, mayv, mays, rfl, hO, ⟨own2, hact2, ls.may, by omega, h3⟩⟩
      · exact absurd h1 h0
  refine opP_i bin_eql ?_
  refine wIf_dec (fun hk2 => ?_) (fun hk2 => ?_)
  · -- Budget
    refine mDevice_spec hO ?_
    refine opP_i offPtr_ptr ?_
    refine load_at hO (Γ0.length + 0) i11 (v := int a.n) rfl ?_
    refine ⟨same_at hO (Γ0.length + 0) i11 hO (Γ0.length + 0) i11 (act_simple hrd), ?_⟩
    refine mLimit_spec hO ?_
    clear hO
    intro H hO
    exact ⟨Γ1, t, jn, _, L, ps, pj, mayv, mays, rfl, hO, ⟨⟨ls.own.d, ls.own.o⟩, hactr, ls.may, by omega, (limit_store hinv hrd.n).mono (by omega)⟩⟩
  refine opP_i bin_eql ?_
  refine wIf_dec (fun hk3 => ?_) (fun hk3 => ?_)
  rotate_left
  · exact ⟨Γ1, t, jn, m, L, ps, pj, mayv, mays, rfl, hO, ⟨ls.own, hactr, ls.may, by omega, hinv.mono (by omega)⟩⟩
  refine mDevice_spec hO ?_
  refine opP_i offPtr_ptr ?_
  refine load_at hO (Γ0.length + 0) i11 (v := a.vk) rfl ?_
  refine ⟨same_at hO (Γ0.length + 0) i11 hO (Γ0.length + 0) i11 (act_simple hrd), ?_⟩
  refine mRestart_spec use.ok.d (Nat.le_trans use.sm.1 (by omega)) hO ls.own hrd.k.rd.app.app.app.app hrd.kb ?_
  clear hO
  intro H hO hown
  obtain ⟨nok, nbd, two', ⟨u, hu, hte⟩, ninv⟩ := anew_store hinv (by omega) a.kept
  have hsl := stand_len two' hA hB
  have hsb := stand_by (a := 0) (b := 1) nbd
  have hsx := tb_sec two' hA hB nbd
  generalize ({ m with d := m.d.restart a.kept } : Mp) = m' at *
  generalize hL : ({ L with vd := nilSl } : Mloc) = L' at *
  have hpm : L.pm = L'.pm := by rw [← hL]
  refine opP_i b29 ?_
  rw [hpm]
  refine tOpen_spec nok (secs_by nbd) (secs_by nbd) hsb (by omega) hsx tbz_right hO ?_
  clear hO
  intro H Δ ps' pj' hO
  generalize jOpen m' 0 1 = jn' at *
  generalize tReplay (jStand m' 0 1).bodies tbz = t' at *
  refine opP_i ext0 ?_
  refine opP_i ext1 ?_
  refine opP_i (eqNil _ _) ?_
  refine wIf_f rfl ?_
  replace hO : St H ((((((Γ1 ++ (SB ps pj t ++ (JB pj L.pm jn ++ Δ))) ++ outB mayv (tbs mays)) ++ NB p8 t) ++ SB ps' pj' t') ++ JB pj' L'.pm jn') ++ MW L' m') := hO.perm (by classical exact List.perm_iff_count.2 fun _ => by simp only [List.count_append, List.count_nil, List.set_cons_zero]; omega)
  obtain ⟨Γ3, hΓ3⟩ : ∃ Γ3, Γ3 = Γ1 ++ (SB ps pj t ++ (JB pj L.pm jn ++ Δ)) := ⟨_, rfl⟩
  have hact3 : RdActs Γ3 actsv acts := by rw [hΓ3]; exact hactr.app
  rw [← hΓ3] at hO
  have ips : ∀ {tn : Tb} {R5 : List (Nat × Blk)}, ((((((Γ3 ++ outB mayv (tbs mays)) ++ NB p8 tn) ++ SB ps' pj' t') ++ JB pj' L'.pm jn') ++ MW L' m') ++ R5)[((Γ3 ++ outB mayv (tbs mays)) ++ NB p8 tn).length + 0]? = some (ps', ⟨ptr pj' 0 :: tbC t', true⟩) := at_l (at_l (at_l (at_r rfl)))
  have ip8 : ∀ {tn : Tb} {R5 : List (Nat × Blk)}, ((((((Γ3 ++ outB mayv (tbs mays)) ++ NB p8 tn) ++ SB ps' pj' t') ++ JB pj' L'.pm jn') ++ MW L' m') ++ R5)[(Γ3 ++ outB mayv (tbs mays)).length + 0]? = some (p8, ⟨tbC tn, true⟩) := at_l (at_l (at_l (at_l (at_r rfl))))
  refine tTable_spec hO (j := ((Γ3 ++ outB mayv (tbs mays)) ++ NB p8 t).length + 0) (at_l (at_l (at_r rfl))) ?_
  intro H2 hO2
  have ip8' : (((((Γ3 ++ outB mayv (tbs mays)) ++ NB p8 t) ++ SB ps' pj' t') ++ JB pj' L'.pm jn') ++ MW L' m')[(Γ3 ++ outB mayv (tbs mays)).length + 0]? = some (p8, ⟨tbC t, true⟩) := at_l (at_l (at_l (at_r rfl)))
  refine loadAll_at hO2 _ ip8' rfl (by omega) ?_
  refine ⟨same_at hO _ ip8' hO2 _ ip8' rfl, ?_⟩
  clear hO
  refine opP_i (eq37 _ _ _) ?_
  have hmlen : lenSl mayv H2 = some (int mays.length, H2) := ls.may.lenSl
  refine opW_i hmlen ?_
  refine tholds_L1 hO2 (js := ((Γ3 ++ outB mayv (tbs mays)) ++ NB p8 t).length + 0) (jm := Γ3.length + 0) (at_l (at_l (at_r rfl))) ?_ (by omega) ?_ rfl
  · rcases ls.may with ⟨_, h0, _⟩ | ⟨p, rfl | rfl, _⟩
    · exact .inl h0
    · exact .inr ⟨p, _, rfl, at_l (at_l (at_l (at_l (at_r rfl))))⟩
    · exact .inr ⟨p, _, rfl, at_l (at_l (at_l (at_l (at_r rfl))))⟩
  clear hO2
  intro H Δ2 hO
  refine cond_yes rfl ?_
  try simp only [nth_zero, nth_succ]
  have hfound : (eqCells (tbC t') (tbC t) || fnd t' mays) = true := by
    rcases hu with rfl | hu
    · rw [hte.cells, eqT_self]; rfl
    · have : fnd t' mays = true := by
        unfold fnd
        rw [List.any_eq_true]
        exact ⟨u, hu, by rw [hte.cells]; exact eqT_self u⟩
      rw [this, Bool.or_true]
  rw [hfound]
  refine opP_i un_not ?_
  refine wIf_f rfl ?_
  refine tTable_spec hO ips ?_
  clear hO
  intro H hO
  refine storeAll_at hO _ ip8 rfl rfl rfl ?_
  clear hO
  intro H hO
  rw [List.set_append_left _ _ (by simp), List.set_append_left _ _ (by simp), List.set_append_left _ _ (by simp), List.set_append_left _ _ (by simp), Go.Ab.set_r] at hO
  replace hO : St H ((((((Γ3 ++ outB mayv (tbs mays)) ++ NB p8 t') ++ SB ps' pj' t') ++ JB pj' L'.pm jn') ++ MW L' m') ++ Δ2) := hO
  exact ⟨(Γ3 ++ outB mayv (tbs mays)) ++ Δ2, t', jn', m', L', ps', pj', nilSl, [], rfl, by show St H ((((((_ ++ []) ++ _) ++ _) ++ _) ++ _)); exact hO.perm (by classical exact List.perm_iff_count.2 fun _ => by simp only [List.count_append, List.count_nil, List.set_cons_zero]; omega), ⟨hown, hact3.app.app, .inl ⟨rfl, rfl, rfl⟩, by simp, ninv.mono (by omega)⟩⟩
end J
set_option linter.unusedVariables false
set_option maxRecDepth 100000
namespace J
open Go Go.Ab
variable {H : Heap} {Γ G : List (Nat × Blk)} {K : Value → Heap → Prop} {v w x : Value} {xs ys bs : List Int} {j p : Nat} {e : Int} {l : List Ch} {t : Tb}
theorem shp_slotW {ts : List TypeId} {N : Nat} {c : List Value} {b : List (List Value)} (h : ShpL P (34 :: ts) N c b) : ∃ (s : Sl) (c' : List Value), c = slC s ++ c' ∧ (∀ i, 0 ≤ s.dg i ∧ s.dg i ≤ 255) ∧ ShpL P ts N c' b := by
  have h0 := shp_structH Go.Proofs.Try.underlying34 h
  have h0 : ShpL P (3 :: 3 :: 30 :: 3 :: 32 :: ts) N c b := h0
  obtain ⟨x1, c1, rfl, _, h1⟩ := shp_int1 (k := .i64) Go.Proofs.Try.underlying3 h0
  obtain ⟨x2, c2, rfl, _, h2⟩ := shp_int1 (k := .i64) Go.Proofs.Try.underlying3 h1
  obtain ⟨x3, c3, rfl, _, h3⟩ := shp_int1 (k := .u64) Go.Proofs.Try.underlying30 h2
  obtain ⟨x4, c4, rfl, _, h4⟩ := shp_int1 (k := .i64) Go.Proofs.Try.underlying3 h3
  have h5 := shp_arrayH Go.Proofs.Try.underlying32 h4
  have H : ∀ (n N : Nat) (c : List Value) (b : List (List Value)), ShpL P (List.replicate n 5 ++ ts) N c b → ∃ (xs : List Int) (c' : List Value), xs.length = n ∧ c = xs.map (Value.int .u8) ++ c' ∧ By xs ∧ ShpL P ts N c' b := by
    intro n
    induction n with
    | zero => intro N c b h; exact ⟨[], c, rfl, rfl, fun x hx => (by cases hx), h⟩
    | succ n ih =>
      intro N c b h
      obtain ⟨x, c', rfl, w, h1⟩ := shp_int1 (k := .u8) Go.Proofs.Try.underlying5 (show ShpL P (5 :: (List.replicate n 5 ++ ts)) N c b from h)
      obtain ⟨xs, c'', hl, rfl, hb, h2⟩ := ih N _ _ h1
      refine ⟨x :: xs, c'', by simp [hl], rfl, ?_, h2⟩
      intro y hy
      rcases List.mem_cons.1 hy with rfl | hy
      · exact wf_u8 w
      · exact hb y hy
  obtain ⟨xs, c', hl, rfl, hb, h6⟩ := H _ _ _ _ h5
  refine ⟨⟨x1, x2, x3, x4, fun i => xs.getD i 0⟩, c', ?_, ?_, h6⟩
  · rw [dgC_eq xs hl]; rfl
  · intro i
    show 0 ≤ xs.getD i 0 ∧ xs.getD i 0 ≤ 255
    rw [List.getD_eq_getElem?_getD]
    by_cases hi : i < xs.length
    · rw [List.getElem?_eq_getElem hi]; exact hb _ (List.getElem_mem hi)
    · rw [List.getElem?_eq_none (by omega)]; decide
theorem shp_chB : ∀ (n N : Nat) (c : List Value) (b : List (List Value)), ShpL P (List.replicate n 41) N c b → b = [] ∧ ∃ l : List Ch, c = chs l ∧ l.length = n ∧ ∀ c ∈ l, CBy c
  | 0, N, c, b, h => by cases h; exact ⟨rfl, [], rfl, rfl, by simp⟩
  | n + 1, N, c, b, h => by
    have h : ShpL P (41 :: List.replicate n 41) N c b := h
    have h0 := shp_structH Go.Proofs.Try.underlying41 h
    have h0 : ShpL P (3 :: 3 :: 3 :: 34 :: 30 :: List.replicate n 41) N c b := h0
    obtain ⟨x1, c1, e1, _, h1⟩ := shp_int1 (k := .i64) Go.Proofs.Try.underlying3 h0
    obtain ⟨x2, c2, e2, _, h2⟩ := shp_int1 (k := .i64) Go.Proofs.Try.underlying3 h1
    obtain ⟨x3, c3, e3, _, h3⟩ := shp_int1 (k := .i64) Go.Proofs.Try.underlying3 h2
    obtain ⟨s, c4, e4, hs, h4⟩ := shp_slotW h3
    obtain ⟨x5, c5, e5, w, h5⟩ := shp_int1 (k := .u64) Go.Proofs.Try.underlying30 h4
    obtain ⟨hb, l, e6, hl, hw⟩ := shp_chB n _ _ _ h5
    refine ⟨hb, ⟨x1, x2, x3, s, x5⟩ :: l, ?_, by simp [hl], ?_⟩
    · rw [e1, e2, e3, e4, e5, e6]
      show _ = chC ⟨x1, x2, x3, s, x5⟩ ++ chs l
      simp [chC]
    · intro c hc
      rcases List.mem_cons.1 hc with rfl | hc
      · exact ⟨hs, (wf_u64 w).1⟩
      · exact hw c hc
theorem arg_chsB {ts : List TypeId} {N : Nat} {av : List Value} {b : List (List Value)} (h : ArgS P (43 :: ts) N av b) :
    ∃ v vs b1 b2 l, av = v :: vs ∧ b = b1 ++ b2 ∧ RdC (argG N b1) v l ∧ (∀ c ∈ l, CBy c) ∧ ArgS P ts (N + b1.length) vs b2 := by
  have hu : P.underlying 43 = some (.slice 41) := by kernel_rfl
  obtain ⟨v, vs, b1, b2, e, eb, h1, h2⟩ := arg_one h (by rw [hu]; simp) (by rw [hu]; simp)
  rcases shp_sl hu h1 with ⟨c', e1, h3⟩ | ⟨len, cells, c', bs, b', e1, eb1, hm, hl, h3, h4⟩
  · cases e1
    exact ⟨_, vs, b1, b2, [], e, eb, ⟨rfl, .inl rfl⟩, by simp, h2⟩
  · cases e1
    obtain ⟨hb, l, rfl, rfl, hw⟩ := shp_chB _ _ _ _ h3
    subst hb
    subst eb1
    exact ⟨_, vs, _, b2, l, e, eb, ⟨rfl, .inr ⟨N, _, 0, rfl, _, rfl⟩⟩, hw, h2⟩
end J
set_option linter.unusedVariables false
set_option linter.unusedSimpArgs false
set_option maxRecDepth 100000
namespace J
open Go Go.Ab
variable {H : Heap} {Γ Γ0 Γ2 Δ M G : List (Nat × Blk)} {K : Value → Heap → Prop} {v w x : Value} {xs ys bs body : List Int} {j p : Nat} {e : Int} {ss tt bb nowB : List (List Int)}
variable {L : Mloc} {m : Mp} {s : List Int} {pj ps A B k : Nat} {jn : Jn} {vals cs : List Value} {t next first : Tb} {l : List Ch}
theorem tholds_main {acts : List Act} {b0 b1 : Int} (hO : St H G) (hr : RdActs G w acts) : wCall P n_law11_TableHolds [agg [int b0, int b1], w] H fun v _ => v = .bool true := by
  apply law11_TableHolds_ok; unfold law11_TableHolds
  refine new_at hO ?_
  clear hO
  intro p2 H hO
  replace hO : St H (G ++ [(p2, ⟨[int b0, int b1], true⟩)]) := hO
  refine law11_tableAlive_spec ?_
  refine opP_i un_not ?_
  refine wIf_f rfl ?_
  refine join_with (fun l' H' => l' = [w, ptr p2 0, .bool false] ∧ H' = H ∧ 2 ≤ b0 ∧ b0 ≤ 20 ∧ 2 ≤ b1 ∧ b1 ≤ 20 ∧ acts.length ≤ 50) ?_ ?_
  · refine opP_i (idxPtr_ok (by omega) (by omega)) ?_
    refine load_at hO (G.length + 0) (at_r rfl) (v := int b0) rfl ?_
    refine opP_i bin_lss ?_
    refine wIf_dec (fun h1 => ?_) (fun h1 => ?_)
    · rw [decide_eq_true h1]
      repeat (first | refine oi ?_ | refine ow ?_ | refine wy ?_ | refine wn ?_ | refine wt ?_ | refine wf' ?_ | refine cy ?_ | refine cn ?_)
      rfl
    rw [decide_eq_false h1]
    refine opP_i (idxPtr_ok (by omega) (by omega)) ?_
    refine load_at hO (G.length + 0) (at_r rfl) (v := int b1) rfl ?_
    refine opP_i bin_lss ?_
    refine opP_i pick_false ?_
    refine wIf_dec (fun h2 => ?_) (fun h2 => ?_)
    · rw [decide_eq_true h2]
      repeat (first | refine oi ?_ | refine ow ?_ | refine wy ?_ | refine wn ?_ | refine wt ?_ | refine wf' ?_ | refine cy ?_ | refine cn ?_)
      rfl
    rw [decide_eq_false h2]
    refine opP_i (idxPtr_ok (by omega) (by omega)) ?_
    refine load_at hO (G.length + 0) (at_r rfl) (v := int b0) rfl ?_
    refine opP_i bin_gtr ?_
    refine opP_i pick_false ?_
    refine wIf_dec (fun h3 => ?_) (fun h3 => ?_)
    · rw [decide_eq_true h3]
      repeat (first | refine oi ?_ | refine ow ?_ | refine wy ?_ | refine wn ?_ | refine wt ?_ | refine wf' ?_ | refine cy ?_ | refine cn ?_)
      rfl
    rw [decide_eq_false h3]
    refine opP_i (idxPtr_ok (by omega) (by omega)) ?_
    refine load_at hO (G.length + 0) (at_r rfl) (v := int b1) rfl ?_
    refine opP_i bin_gtr ?_
    refine opP_i pick_false ?_
    refine wIf_dec (fun h4 => ?_) (fun h4 => ?_)
    · rw [decide_eq_true h4]
      repeat (first | refine oi ?_ | refine ow ?_ | refine wy ?_ | refine wn ?_ | refine wt ?_ | refine wf' ?_ | refine cy ?_ | refine cn ?_)
      rfl
    rw [decide_eq_false h4]
    refine opW_i hr.lenSl ?_
    refine opP_i bin_gtr ?_
    refine opP_i pick_false ?_
    refine wIf_dec (fun h5 => ?_) (fun h5 => ?_)
    · rfl
    exact ⟨rfl, rfl, by omega, by omega, by omega, by omega, by omega⟩
  rintro l' H' ⟨rfl, rfl, h1, h2, h3, h4, h5⟩
  try simp only [nth_zero, nth_succ]
  obtain ⟨A, rfl⟩ : ∃ A : Nat, b0 = A := ⟨b0.toNat, by omega⟩
  obtain ⟨B, rfl⟩ : ∃ B : Nat, b1 = B := ⟨b1.toNat, by omega⟩
  refine loadAll_at hO (G.length + 0) (at_r rfl) rfl (by omega) ?_
  refine topen_spec hO (by omega) (by omega) (by omega) ?_
  clear hO
  intro H L hO hown
  have hs : A + B ≤ 60 := by omega
  obtain ⟨hu, hup, hbod, hnr⟩ := mt_inv hs
  refine opP_i b29 ?_
  refine tOpen_spec (mt_ok hs) (secs_by new_bd) (secs_by new_bd) (by rw [hbod]; intro x hx; cases hx) (by rw [hbod]; simp) (by rw [hbod]; intro x hx; cases hx) tbz_right hO ?_
  clear hO
  intro H Δ ps pj hO
  rw [hbod] at hO
  replace hO : St H (((((G ++ [(p2, ⟨[int A, int B], true⟩)]) ++ Δ) ++ SB ps pj tbz) ++ JB pj L.pm (jOpen (mt A B) 0 1)) ++ MW L (mt A B)) := hO
  refine opP_i ext0 ?_
  refine opP_i ext1 ?_
  refine opP_i b29 ?_
  rw [zc29]
  refine new_at hO ?_
  clear hO
  intro p8 H hO
  refine storeAll_at hO (_ + 0) (at_r rfl) rfl rfl rfl ?_
  clear hO
  intro H hO
  replace hO := hO.set_r
  refine newSl_at hO (bsT0 _) ?_
  clear hO
  intro q H hO
  refine opW_i hr.lenSl ?_
  replace hO : St H ((((((((G ++ [(p2, ⟨[int A, int B], true⟩)]) ++ Δ) ++ SB ps pj tbz) ++ JB pj L.pm (jOpen (mt A B) 0 1)) ++ MW L (mt A B)) ++ NB p8 tbz)) ++ outB (sl q 0 0 151) []) := hO
  replace hO : St H (((((((G ++ [(p2, ⟨[int A, int B], true⟩)]) ++ Δ) ++ outB (sl q 0 0 151) []) ++ NB p8 tbz) ++ SB ps pj tbz) ++ JB pj L.pm (jOpen (mt A B) 0 1)) ++ MW L (mt A B)) := hO.perm (by classical exact List.perm_iff_count.2 fun _ => by simp only [List.count_append, List.count_nil, List.set_cons_zero]; omega)
  refine tholds_L0 (A := A) (B := B) (mayv0 := sl q 0 0 151) (by omega) (by omega) (by omega) (by omega) rfl (by omega) hO ⟨hown, hr.app.app, .inr ⟨q, .inr rfl, rfl⟩, by simp, ⟨tbz_right, tbz_tw, (fun x hx => by cases hx), [], [], ⟨hu, .inl ⟨hup, rfl⟩⟩, TE.rfl', (fun x hx => by cases hx)⟩⟩ ?_ ?_
  · intro H'
    exact cond_yes rfl (by first | rfl | trivial)
  · intro H'
    first | rfl | trivial
structure FInv (A B k : Nat) (t : Tb) (jn : Jn) (m : Mp) (nowB : List (List Int)) : Prop where
  u : Use A B k jn m
  up : Up jn m A B nowB
  r : TRight t
  w : TW t
  rep : RepOk nowB t
  b : m.d.budget < 0
  p : jn.ready = true → 2 ≤ jn.pos
theorem do_up (h : FInv A B k t jn m nowB) (hk : k ≤ 9000) (hA : 2 ≤ A) (hB : 2 ≤ B) (hc : ∀ c ∈ l, CBy c) :
    let D := tDo t jn m l
    ((tApply t l).2 = 111 ∧ D = (t, jn, m, 111)) ∨ ((tApply t l).2 = 0 ∧ D.2.2.2 = 0 ∧ D.1 = (tApply t l).1 ∧ D.2.1.ready = true ∧ ∃ nb, nb ≠ [] ∧ FInv A B (k + 1) D.1 D.2.1 D.2.2.1 nb) := by
  intro D
  have hD : D = tDo t jn m l := rfl
  unfold tDo at hD
  rcases apply_e (t := t) (l := l) with ho | ho
  · right
    refine ⟨ho, ?_⟩
    obtain ⟨_, _, u, _, e, hur⟩ := apply_ok ho
    have hr' : TRight (tApply t l).1 := by rw [e]; exact hur
    have hw' := apply_tw h.w hc
    have hb1 := By_lBy hc
    have hb2 : By (tBy (tApply t l).1) := By_tBy hw'.a hw'.b
    rw [if_neg (by rw [ho]; simp)] at hD
    obtain ⟨more, hm, ⟨ku, kk⟩⟩ := keep_up (l := l) h.u h.up hk hA hB hr' hb1 hb2
    have hrm := rep_keep hm h.rep ho h.w hc
    have hne : more ≠ [] := by rcases hm with rfl | ⟨_, rfl⟩ <;> simp
    have hbud := h.b
    generalize tKeep jn m (tApply t l).1 l = R at *
    rcases kk with ⟨c1, c2, c3, c4, c5⟩ | ⟨c1, c2, c3⟩
    · rw [if_neg (by rw [c1]; simp)] at hD
      rw [hD]
      have := c4 hbud
      exact ⟨rfl, rfl, c3, more, hne, ⟨ku, c2, hr', hw', hrm, by show R.2.1.d.budget < 0; omega, fun _ => c5 h.p⟩⟩
    · omega
  · left
    rw [if_pos (by rw [ho]; decide)] at hD
    exact ⟨ho, by rw [hD, ho]⟩
theorem FInv.mono {k' : Nat} (h : FInv A B k t jn m nowB) (hk : k ≤ k') : FInv A B k' t jn m nowB := ⟨h.u.mono hk, h.up, h.r, h.w, h.rep, h.b, h.p⟩
set_option maxHeartbeats 8000000 in
theorem tfull_L0 {lv : Value} {jn0 : Jn} {p3 p8 : Nat} {times : Int} {Qx : Nat → List Value → Heap → Prop} {Qr : List Value → Heap → Prop}
    (hA : A ≤ 30) (hB : B ≤ 30) (hA2 : 2 ≤ A) (hB2 : 2 ≤ B) (ht0 : 0 ≤ times) (ht : times ≤ 60) (hl8 : l.length ≤ 8)
    (hO : St H ((((G ++ NB p8 tbz) ++ SB ps pj tbz) ++ JB pj L.pm jn0) ++ MW L m)) (hown : Mown L m) (hlr : RdC G lv l) (hlc : ∀ c ∈ l, CBy c) (hj3 : ∃ j3 : Nat, G[j3]? = some (p3, (⟨[int A, int B], true⟩ : Blk))) (hf : FInv A B 0 tbz jn0 m [])
    (hx : ∀ H', Qx 0 [.bool false] H') :
    wLoop P true 133 law11_TableFull_P0 64 [lv, int times, ptr p3 0, .bool false, ptr L.pm 0, ptr ps 0, ptr p8 0, int 0] H Qx Qr := by
  obtain ⟨n, rfl⟩ : ∃ n : Nat, times = n := ⟨times.toNat, by omega⟩
  refine law11_TableFull_L0_ind (fun k l' H' => ∃ (y : Nat) (Γ0 : List (Nat × Blk)) (t : Tb) (jn : Jn) (m : Mp) (L : Mloc) (nowB : List (List Int)), y ≤ n ∧ k = n - y ∧ l' = [lv, int n, ptr p3 0, .bool false, ptr L.pm 0, ptr ps 0, ptr p8 0, int y] ∧ St H' ((((Γ0 ++ NB p8 t) ++ SB ps pj t) ++ JB pj L.pm jn) ++ MW L m) ∧ Mown L m ∧ RdC Γ0 lv l ∧ (∃ j3 : Nat, Γ0[j3]? = some (p3, (⟨[int A, int B], true⟩ : Blk))) ∧ FInv A B y t jn m nowB) _ _ ?_ n _ _ ⟨0, G, tbz, jn0, m, L, [], by omega, by omega, rfl, hO, hown, hlr, hj3, hf⟩
  clear hO hown hlr hj3 hf
  rintro k l' H ⟨y, Γ0, t, jn, m, L, nowB, hy, rfl, rfl, hO, hown, hlr, ⟨j3, hj3⟩, hf⟩
  unfold law11_TableFull_L0
  try simp only [nth_zero, nth_succ]
  refine opP_i bin_lss ?_
  refine wIf_dec (fun h => ?_) (fun h => ?_)
  rotate_left
  · exact hx _
  have hadd : (binC P .add 3 true).f (int y) (.int .i64 1) = some (int ((y + 1 : Nat) : Int)) := by rw [show ((y + 1 : Nat) : Int) = (y : Int) + 1 by omega]; exact bin_addi (by omega) (by omega)
  have use := hf.u
  refine loadAll_at hO (Γ0.length + 0) (at_l (at_l (at_l (at_r rfl)))) rfl (by omega) ?_
  refine table_Apply_spec hO hlr.app.app.app.app (by omega) ?_
  clear hO
  intro H hO
  refine opP_i ext0 ?_
  refine opP_i ext1 ?_
  rw [zc29]
  refine new_at hO ?_
  clear hO
  intro p12 H hO
  refine storeAll_at hO (_ + 0) (at_r rfl) rfl rfl rfl ?_
  clear hO
  intro H hO
  replace hO := hO.set_r
  replace hO : St H (((((Γ0 ++ [(p12, ⟨tbC (tApply t l).1, true⟩)]) ++ NB p8 t) ++ SB ps pj t) ++ JB pj L.pm jn) ++ MW L m) := hO.perm (by classical exact List.perm_iff_count.2 fun _ => by simp only [List.count_append, List.count_nil, List.set_cons_zero]; omega)
  have hd := do_up hf (by omega) hA2 hB2 hlc
  simp only at hd
  have hup : (tApply t l).2 = 0 → TW (tApply t l).1 := fun _ => apply_tw hf.w hlc
  refine do_spec (N := 5000 * y) use.ok use.jok use.sm (by omega) hlr.app.app (by omega) (fun c h => (hlc c h).2) (fun h => (hup h).f) (By_lBy hlc) (fun h => By_tBy (hup h).a (hup h).b) hO hown ?_
  clear hO
  intro H L2 he hO own2
  generalize tDo t jn m l = D at *
  generalize hE : (tApply t l).2 = E at *
  generalize (tApply t l).1 = nx at *
  have hEE : D.2.2.2 = E := by
    rcases hd with ⟨rfl, rfl⟩ | ⟨rfl, h0, _⟩
    · rfl
    · exact h0
  rw [hEE]
  refine opP_i bin_neq ?_
  refine wIf_no (by simp) ?_
  rw [he.m] at hO
  rw [← he.m] at hO
  obtain ⟨Γ1, hΓ1⟩ : ∃ Γ1, Γ1 = Γ0 ++ [(p12, (⟨tbC nx, true⟩ : Blk))] := ⟨_, rfl⟩
  have hp12 : Γ1[Γ0.length + 0]? = some (p12, ⟨tbC nx, true⟩) := by rw [hΓ1]; exact at_r rfl
  have hlr1 : RdC Γ1 lv l := by rw [hΓ1]; exact hlr.app
  have hj31 : Γ1[j3]? = some (p3, (⟨[int A, int B], true⟩ : Blk)) := by rw [hΓ1]; exact at_l hj3
  rw [← hΓ1] at hO
  clear hΓ1
  have hfin : ∃ (t' : Tb) (nb : List (List Int)), t' = (if E = 0 then nx else t) ∧ t' = D.1 ∧ FInv A B (y + 1) t' D.2.1 D.2.2.1 nb ∧ (E = 0 → nb ≠ [] ∧ D.2.1.ready = true) := by
    rcases hd with ⟨rfl, rfl⟩ | ⟨rfl, h0, h1, h2, nb, h3, h4⟩
    · exact ⟨t, nowB, rfl, rfl, hf.mono (by omega), fun h => by cases h⟩
    · exact ⟨nx, nb, rfl, h1.symm, by rw [← h1]; exact h4, fun _ => ⟨h3, h2⟩⟩
  obtain ⟨t', nb, ht', hD1, hf', hE0⟩ := hfin
  rw [← hD1] at hO
  generalize D.2.1 = jn' at *
  generalize D.2.2.1 = m' at *
  clear hd hD1 hEE
  have use' := hf'.u
  refine join_with (fun l' H' => l' = [lv, int n, ptr p3 0, .bool false, ptr L2.pm 0, ptr ps 0, ptr p8 0, int y, int E] ∧ St H' ((((Γ1 ++ NB p8 t') ++ SB ps pj t') ++ JB pj L2.pm jn') ++ MW L2 m')) ?_ ?_
  · refine opP_i bin_eql ?_
    rw [← he.m]
    refine wIf_dec (fun h0 => ?_) (fun h0 => ?_)
    · rw [if_pos h0] at ht'
      subst ht'
      refine loadAll_at hO (Γ0.length + 0) (at_l (at_l (at_l (at_l hp12)))) rfl (by omega) ?_
      refine storeAll_at hO (Γ1.length + 0) (at_l (at_l (at_l (at_r rfl)))) rfl rfl rfl ?_
      clear hO
      intro H hO
      rw [List.set_append_left _ _ (by simp), List.set_append_left _ _ (by simp), List.set_append_left _ _ (by simp), Go.Ab.set_r] at hO
      exact ⟨rfl, hO⟩
    · rw [if_neg h0] at ht'
      subst ht'
      exact ⟨rfl, hO⟩
  clear hO
  rintro l' H ⟨rfl, hO⟩
  try simp only [nth_zero, nth_succ]
  have hsl := stand_len use'.wd.two hA hB
  have hsb := stand_by (a := 0) (b := 1) use'.bd
  have hsx := tb_sec use'.wd.two hA hB use'.bd
  obtain ⟨F, hj, hrdy⟩ := hf'.up.st
  obtain ⟨o1, o2⟩ := jst_open use'.wd.two hf'.up.sk hj
  refine opP_i b29 ?_
  refine tOpen_spec use'.ok (secs_by use'.bd) (secs_by use'.bd) hsb (by omega) hsx tbz_right hO ?_
  clear hO
  intro H Δ ps2 pj2 hO
  rw [o1, o2] at hO
  have hte := rep_te hf'.rep
  obtain ⟨jr, hjr⟩ : ∃ jr : Jn, jr = ⟨0, 1, jn'.now, jn'.last, 0, false⟩ := ⟨_, rfl⟩
  rw [← hjr] at hO
  have jrok : jr.Ok := by rw [hjr]; exact ⟨use'.jok.n, use'.jok.l, by show (0 : Int) ≤ 0 ∧ (0 : Int) ≤ _; omega⟩
  generalize tReplay nb tbz = tr at *
  refine opP_i ext0 ?_
  refine opP_i ext1 ?_
  have i8 : ∀ {R1 R2 R3 R4 R5 R6 : List (Nat × Blk)}, (((((((Γ1 ++ NB p8 t') ++ R1) ++ R2) ++ R3) ++ R4) ++ R5) ++ R6)[Γ1.length + 0]? = some (p8, ⟨tbC t', true⟩) := at_l (at_l (at_l (at_l (at_l (at_l (at_r rfl))))))
  have iss : ∀ {R2 R3 R4 R5 R6 : List (Nat × Blk)}, (((((((Γ1 ++ NB p8 t') ++ SB ps pj t') ++ R2) ++ R3) ++ R4) ++ R5) ++ R6)[(Γ1 ++ NB p8 t').length + 0]? = some (ps, ⟨ptr pj 0 :: tbC t', true⟩) := at_l (at_l (at_l (at_l (at_l (at_r rfl)))))
  replace hO : St H (((((((Γ1 ++ NB p8 t') ++ SB ps pj t') ++ JB pj L2.pm jn') ++ Δ) ++ SB ps2 pj2 tr) ++ JB pj2 L2.pm jr) ++ MW L2 m') := hO
  refine join_with (fun l' H' => l' = [lv, int n, ptr p3 0, .bool false, ptr L2.pm 0, ptr ps 0, ptr p8 0, int y, int E] ∧ St H' (((((((Γ1 ++ NB p8 t') ++ SB ps pj t') ++ JB pj L2.pm jn') ++ Δ) ++ SB ps2 pj2 tr) ++ JB pj2 L2.pm jr) ++ MW L2 m')) ?_ ?_
  · refine opP_i (v := .bool false) (by rw [bin_neq]; rfl) ?_
    refine wIf_f rfl ?_
    refine opP_i (eqNil _ _) ?_
    refine opP_i pick_false ?_
    refine wIf_f rfl ?_
    refine tTable_spec hO (j := ((((Γ1 ++ NB p8 t') ++ SB ps pj t') ++ JB pj L2.pm jn') ++ Δ).length + 0) (at_l (at_l (at_r rfl))) ?_
    intro H2 hO2
    refine loadAll_at hO2 _ i8 rfl (by omega) ?_
    refine ⟨same_at hO _ i8 hO2 _ i8 rfl, ?_⟩
    clear hO
    refine opP_i (neq37 hte.cells _) ?_
    refine opP_i pick_false ?_
    refine wIf_f rfl ?_
    refine tTable_spec hO2 iss ?_
    intro H3 hO3
    refine loadAll_at hO3 _ i8 rfl (by omega) ?_
    refine ⟨same_at hO2 _ i8 hO3 _ i8 rfl, ?_⟩
    clear hO2
    refine opP_i (neq37 rfl _) ?_
    refine opP_i pick_false ?_
    refine wIf_f rfl ?_
    refine tLeft_spec use'.ok jrok hO3 ?_
    have hl0 : jr.left m' = 0 := by rw [hjr]; rfl
    rw [hl0]
    refine opP_i (v := .bool false) (by rw [bin_neq]; rfl) ?_
    refine opP_i pick_false ?_
    refine wIf_f rfl ?_
    exact ⟨rfl, hO3⟩
  clear hO
  rintro l' H ⟨rfl, hO⟩
  try simp only [nth_zero, nth_succ]
  refine jOpen_spec use'.ok (secs_by use'.bd) (secs_by use'.bd) hO ?_
  clear hO
  intro H Δ2 vb vals pj3 hO obs
  rw [o1] at obs
  refine opP_i ext0 ?_
  refine opP_i ext1 ?_
  have hend : St H ((((((Γ1 ++ (Δ ++ (SB ps2 pj2 tr ++ (JB pj2 L2.pm jr ++ (Δ2 ++ (outB vb vals ++ JB pj3 L2.pm (jOpen m' 0 1))))))) ++ NB p8 t') ++ SB ps pj t') ++ JB pj L2.pm jn') ++ MW L2 m')) := hO.perm (by classical exact List.perm_iff_count.2 fun _ => by simp only [List.count_append, List.count_nil, List.set_cons_zero]; omega)
  have hlr2 : RdC (Γ1 ++ (Δ ++ (SB ps2 pj2 tr ++ (JB pj2 L2.pm jr ++ (Δ2 ++ (outB vb vals ++ JB pj3 L2.pm (jOpen m' 0 1))))))) lv l := hlr1.app
  have hj32 : (Γ1 ++ (Δ ++ (SB ps2 pj2 tr ++ (JB pj2 L2.pm jr ++ (Δ2 ++ (outB vb vals ++ JB pj3 L2.pm (jOpen m' 0 1)))))))[j3]? = some (p3, (⟨[int A, int B], true⟩ : Blk)) := at_l hj31
  clear hO
  refine opP_i bin_eql ?_
  refine wIf_dec (fun h0 => ?_) (fun h0 => ?_)
  · rw [decide_eq_true h0]
    obtain ⟨hne, hrd⟩ := hE0 h0
    refine opW_i obs.o.lenSl ?_
    refine opP_i bin_eql ?_
    have hb0 : ¬ ((nb.length : Int) = 0) := by have := List.length_pos_iff.2 hne; omega
    refine wIf_no hb0 ?_
    rw [decide_eq_false hb0]
    refine tLeft_spec use'.ok use'.jok hend ?_
    refine opP_i (idxPtr_ok (by omega) (by omega)) ?_
    have i3 := hj32
    have i3' : ((((((Γ1 ++ (Δ ++ (SB ps2 pj2 tr ++ (JB pj2 L2.pm jr ++ (Δ2 ++ (outB vb vals ++ JB pj3 L2.pm (jOpen m' 0 1))))))) ++ NB p8 t') ++ SB ps pj t') ++ JB pj L2.pm jn') ++ MW L2 m'))[j3]? = some (p3, (⟨[int A, int B], true⟩ : Blk)) := at_l (at_l (at_l (at_l i3)))
    refine load_at hend j3 i3' (v := int A) rfl ?_
    refine ⟨same_at hend j3 i3' hend j3 i3' rfl, ?_⟩
    refine opP_i (idxPtr_ok (by omega) (by omega)) ?_
    refine load_at hend j3 i3' (v := int B) rfl ?_
    refine ⟨same_at hend j3 i3' hend j3 i3' rfl, ?_⟩
    refine opW_i max_w ?_
    refine opP_i (bin_subi (by omega) (by omega)) ?_
    refine opP_i bin_gtr ?_
    refine opP_i pick_false ?_
    refine opP_i pick_true ?_
    have hleft : jn'.left m' ≤ max (A : Int) B - 2 := by
      have hp := hf'.p hrd
      unfold Jn.left
      rw [if_neg (by simp [hrd]), jab_bank use'.jab use'.bit, two_size use'.wd.two use'.bit]
      have : siz A B jn'.now ≤ max A B := by
        unfold siz
        split <;> omega
      omega
    refine wIf_no (by omega) ?_
    refine opP_i hadd ?_
    exact ⟨_, by omega, y + 1, _, t', jn', m', L2, nb, by omega, rfl, rfl, hend, own2, hlr2, ⟨j3, hj32⟩, hf'⟩
  · rw [decide_eq_false h0]
    refine opP_i pick_false ?_
    refine wIf_f rfl ?_
    refine opP_i hadd ?_
    exact ⟨_, by omega, y + 1, _, t', jn', m', L2, nb, by omega, rfl, rfl, hend, own2, hlr2, ⟨j3, hj32⟩, hf'⟩
end J
set_option linter.unusedVariables false
set_option linter.unusedSimpArgs false
set_option maxRecDepth 100000
namespace J
open Go Go.Ab
variable {H : Heap} {Γ Γ0 Γ2 Δ M G : List (Nat × Blk)} {K : Value → Heap → Prop} {v w x : Value} {A B : Nat} {l : List Ch}
theorem tfull_main {b0 b1 times : Int} (hO : St H G) (hlr : RdC G w l) (hlc : ∀ c ∈ l, CBy c) : wCall P n_law11_TableFull [agg [int b0, int b1], w, int times] H fun v _ => v = .bool true := by
  apply law11_TableFull_ok; unfold law11_TableFull
  refine new_at hO ?_
  clear hO
  intro p2 H hO
  replace hO : St H (G ++ [(p2, ⟨[int b0, int b1], true⟩)]) := hO
  refine law11_tableAlive_spec ?_
  refine opP_i un_not ?_
  refine wIf_f rfl ?_
  refine join_with (fun l' H' => l' = [w, int times, ptr p2 0, .bool false] ∧ H' = H ∧ 2 ≤ b0 ∧ b0 ≤ 20 ∧ 2 ≤ b1 ∧ b1 ≤ 20 ∧ l.length ≤ 8 ∧ 0 ≤ times ∧ times ≤ 60) ?_ ?_
  · refine opP_i (idxPtr_ok (by omega) (by omega)) ?_
    refine load_at hO (G.length + 0) (at_r rfl) (v := int b0) rfl ?_
    refine opP_i bin_lss ?_
    refine wIf_dec (fun h1 => ?_) (fun h1 => ?_)
    · rw [decide_eq_true h1]
      repeat (first | refine oi ?_ | refine ow ?_ | refine wy ?_ | refine wn ?_ | refine wt ?_ | refine wf' ?_ | refine cy ?_ | refine cn ?_)
      rfl
    rw [decide_eq_false h1]
    refine opP_i (idxPtr_ok (by omega) (by omega)) ?_
    refine load_at hO (G.length + 0) (at_r rfl) (v := int b1) rfl ?_
    refine opP_i bin_lss ?_
    refine opP_i pick_false ?_
    refine wIf_dec (fun h2 => ?_) (fun h2 => ?_)
    · rw [decide_eq_true h2]
      repeat (first | refine oi ?_ | refine ow ?_ | refine wy ?_ | refine wn ?_ | refine wt ?_ | refine wf' ?_ | refine cy ?_ | refine cn ?_)
      rfl
    rw [decide_eq_false h2]
    refine opP_i (idxPtr_ok (by omega) (by omega)) ?_
    refine load_at hO (G.length + 0) (at_r rfl) (v := int b0) rfl ?_
    refine opP_i bin_gtr ?_
    refine opP_i pick_false ?_
    refine wIf_dec (fun h3 => ?_) (fun h3 => ?_)
    · rw [decide_eq_true h3]
      repeat (first | refine oi ?_ | refine ow ?_ | refine wy ?_ | refine wn ?_ | refine wt ?_ | refine wf' ?_ | refine cy ?_ | refine cn ?_)
      rfl
    rw [decide_eq_false h3]
    refine opP_i (idxPtr_ok (by omega) (by omega)) ?_
    refine load_at hO (G.length + 0) (at_r rfl) (v := int b1) rfl ?_
    refine opP_i bin_gtr ?_
    refine opP_i pick_false ?_
    refine wIf_dec (fun h4 => ?_) (fun h4 => ?_)
    · rw [decide_eq_true h4]
      repeat (first | refine oi ?_ | refine ow ?_ | refine wy ?_ | refine wn ?_ | refine wt ?_ | refine wf' ?_ | refine cy ?_ | refine cn ?_)
      rfl
    rw [decide_eq_false h4]
    refine opW_i (by rw [hlr.1]) ?_
    refine opP_i bin_gtr ?_
    refine opP_i pick_false ?_
    refine wIf_dec (fun h5 => ?_) (fun h5 => ?_)
    · rw [decide_eq_true h5]
      repeat (first | refine oi ?_ | refine ow ?_ | refine wy ?_ | refine wn ?_ | refine wt ?_ | refine wf' ?_ | refine cy ?_ | refine cn ?_)
      rfl
    rw [decide_eq_false h5]
    refine opP_i bin_lss ?_
    refine opP_i pick_false ?_
    refine wIf_dec (fun h6 => ?_) (fun h6 => ?_)
    · rw [decide_eq_true h6]
      repeat (first | refine oi ?_ | refine ow ?_ | refine wy ?_ | refine wn ?_ | refine wt ?_ | refine wf' ?_ | refine cy ?_ | refine cn ?_)
      rfl
    rw [decide_eq_false h6]
    refine opP_i bin_gtr ?_
    refine opP_i pick_false ?_
    refine wIf_dec (fun h7 => ?_) (fun h7 => ?_)
    · rfl
    exact ⟨rfl, rfl, by omega, by omega, by omega, by omega, by omega, by omega, by omega⟩
  rintro l' H' ⟨rfl, rfl, h1, h2, h3, h4, h5, h6, h7⟩
  try simp only [nth_zero, nth_succ]
  obtain ⟨A, rfl⟩ : ∃ A : Nat, b0 = A := ⟨b0.toNat, by omega⟩
  obtain ⟨B, rfl⟩ : ∃ B : Nat, b1 = B := ⟨b1.toNat, by omega⟩
  refine loadAll_at hO (G.length + 0) (at_r rfl) rfl (by omega) ?_
  refine topen_spec hO (by omega) (by omega) (by omega) ?_
  clear hO
  intro H L hO hown
  have hs : A + B ≤ 60 := by omega
  obtain ⟨hu, hup, hbod, hnr⟩ := mt_inv hs
  refine opP_i b29 ?_
  refine tOpen_spec (mt_ok hs) (secs_by new_bd) (secs_by new_bd) (by rw [hbod]; intro x hx; cases hx) (by rw [hbod]; simp) (by rw [hbod]; intro x hx; cases hx) tbz_right hO ?_
  clear hO
  intro H Δ ps pj hO
  rw [hbod] at hO
  replace hO : St H (((((G ++ [(p2, ⟨[int A, int B], true⟩)]) ++ Δ) ++ SB ps pj tbz) ++ JB pj L.pm (jOpen (mt A B) 0 1)) ++ MW L (mt A B)) := hO
  refine opP_i ext0 ?_
  refine opP_i ext1 ?_
  refine opP_i b29 ?_
  rw [zc29]
  refine new_at hO ?_
  clear hO
  intro p8 H hO
  refine storeAll_at hO (_ + 0) (at_r rfl) rfl rfl rfl ?_
  clear hO
  intro H hO
  replace hO := hO.set_r
  replace hO : St H ((((((G ++ [(p2, ⟨[int A, int B], true⟩)]) ++ Δ) ++ SB ps pj tbz) ++ JB pj L.pm (jOpen (mt A B) 0 1)) ++ MW L (mt A B)) ++ NB p8 tbz) := hO
  replace hO : St H ((((((G ++ [(p2, ⟨[int A, int B], true⟩)]) ++ Δ) ++ NB p8 tbz) ++ SB ps pj tbz) ++ JB pj L.pm (jOpen (mt A B) 0 1)) ++ MW L (mt A B)) := hO.perm (by classical exact List.perm_iff_count.2 fun _ => by simp only [List.count_append, List.count_nil, List.set_cons_zero]; omega)
  refine tfull_L0 (A := A) (B := B) (m := mt A B) (by omega) (by omega) (by omega) (by omega) h6 h7 (by omega) hO hown hlr.app.app hlc ⟨G.length + 0, at_l (at_r rfl)⟩ ⟨hu, hup, tbz_right, tbz_tw, TE.rfl', (by show (-1 : Int) < 0; decide), fun h => by rw [hnr] at h; cases h⟩ ?_
  intro H'
  exact cond_yes rfl (by first | rfl | trivial)
theorem shp_bytes {ts : List TypeId} {N : Nat} {c : List Value} {b : List (List Value)} (h : ShpL P (46 :: ts) N c b) :
    ∃ v xs c' b1 b2, c = v :: c' ∧ b = b1 ++ b2 ∧ ArgB (argG N b1) v xs ∧ By xs ∧ ShpL P ts (N + b1.length) c' b2 := by
  rcases shp_sl u46 h with ⟨c', e1, h3⟩ | ⟨len, cells, c', bs, b', e1, eb1, hm, hl, h3, h4⟩
  · exact ⟨_, [], c', [], b, e1, rfl, .inl ⟨rfl, rfl⟩, fun x hx => (by cases hx), h3⟩
  · obtain ⟨hb, xs, rfl, rfl, hw⟩ := shp_intsL (k := .u8) Go.Proofs.Try.underlying5 _ _ _ _ h3
    subst hb
    subst eb1
    exact ⟨_, xs, c', [by8 xs], b', e1, rfl, .inr ⟨N, 0, rfl, rfl⟩, fun x hx => wf_u8 (hw x hx), h4⟩
theorem shp_chgs {ts : List TypeId} {N : Nat} {c : List Value} {b : List (List Value)} (h : ShpL P (43 :: ts) N c b) :
    ∃ v l c' b1 b2, c = v :: c' ∧ b = b1 ++ b2 ∧ ArgC (argG N b1) v l ∧ (∀ c ∈ l, CBy c) ∧ ShpL P ts (N + b1.length) c' b2 := by
  have hu : P.underlying 43 = some (.slice 41) := by kernel_rfl
  have hc : P.cellsOf 41 = 40 := by kernel_rfl
  rcases shp_sl hu h with ⟨c', e1, h3⟩ | ⟨len, cells, c', bs, b', e1, eb1, hm, hl, h3, h4⟩
  · exact ⟨_, [], c', [], b, e1, rfl, .inl ⟨rfl, rfl⟩, by simp, h3⟩
  · obtain ⟨hb, l, rfl, rfl, hw⟩ := shp_chB _ _ _ _ h3
    subst hb
    subst eb1
    rw [hc] at e1
    exact ⟨_, l, c', [chs l], b', e1, rfl, .inr ⟨N, 0, rfl, rfl⟩, hw, h4⟩
theorem shp_act {ts : List TypeId} {N : Nat} {c : List Value} {b : List (List Value)} (h : ShpL P (72 :: ts) N c b) :
    ∃ (a : Act) (c' : List Value) (b1 b2 : List (List Value)), c = actC a ++ c' ∧ b = b1 ++ b2 ∧ a.Rd (argG N b1) ∧ ShpL P ts (N + b1.length) c' b2 := by
  have h0 := shp_structH Go.Proofs.Try.underlying72 h
  have h0 : ShpL P (3 :: 3 :: 43 :: 46 :: ts) N c b := h0
  obtain ⟨x1, c1, rfl, _, h1⟩ := shp_int1 (k := .i64) Go.Proofs.Try.underlying3 h0
  obtain ⟨x2, c2, rfl, w2, h2⟩ := shp_int1 (k := .i64) Go.Proofs.Try.underlying3 h1
  obtain ⟨v, l, c3, b1, b2, rfl, eb, hv, hb, h3⟩ := shp_chgs h2
  obtain ⟨v2, xs, c4, b3, b4, rfl, eb2, hv2, hb2, h4⟩ := shp_bytes h3
  refine ⟨⟨x1, x2, v, l, v2, xs⟩, c4, b1 ++ b3, b4, rfl, by rw [eb, eb2, List.append_assoc], ⟨?_, hb, ?_, hb2, (wf_i64 w2).2⟩, ?_⟩
  · rw [argG_append]; exact hv.app
  · rw [argG_append]; exact argB_l hv2
  · rw [List.length_append, ← Nat.add_assoc]; exact h4
theorem shp_acts : ∀ (n N : Nat) (c : List Value) (b : List (List Value)), ShpL P (List.replicate n 72) N c b → ∃ l : List Act, c = l.flatMap actC ∧ l.length = n ∧ ∀ a ∈ l, a.Rd (argG N b)
  | 0, N, c, b, h => by cases h; exact ⟨[], rfl, rfl, by simp⟩
  | n + 1, N, c, b, h => by
    have h : ShpL P (72 :: List.replicate n 72) N c b := h
    obtain ⟨a, c', b1, b2, e1, e2, hr, h2⟩ := shp_act h
    obtain ⟨l, e3, e4, hl⟩ := shp_acts n _ _ _ h2
    subst e1; subst e2; subst e3
    refine ⟨a :: l, rfl, by simp [e4], fun x hx => ?_⟩
    rw [argG_append]
    rcases List.mem_cons.1 hx with rfl | hx
    · exact hr.app
    · exact (hl x hx).app'
theorem arg_acts {ts : List TypeId} {N : Nat} {av : List Value} {b : List (List Value)} (h : ArgS P (69 :: ts) N av b) :
    ∃ v vs b1 b2 l, av = v :: vs ∧ b = b1 ++ b2 ∧ RdActs (argG N b1) v l ∧ ArgS P ts (N + b1.length) vs b2 := by
  have hu : P.underlying 69 = some (.slice 72) := by kernel_rfl
  obtain ⟨v, vs, b1, b2, e, eb, h1, h2⟩ := arg_one h (by rw [hu]; simp) (by rw [hu]; simp)
  rcases shp_sl hu h1 with ⟨c', e1, h3⟩ | ⟨len, cells, c', bs, b', e1, eb1, hm, hl, h3, h4⟩
  · cases e1
    exact ⟨_, vs, b1, b2, [], e, eb, ⟨.inl ⟨rfl, rfl⟩, fun a ha => by cases ha⟩, h2⟩
  · cases e1
    obtain ⟨l, rfl, rfl, hr⟩ := shp_acts _ _ _ _ h3
    obtain ⟨_, rfl⟩ := shp_nil h4
    refine ⟨_, vs, b1, b2, l, e, eb, ⟨.inr ⟨N, _, 0, false, rfl, ?_⟩, fun a ha => ?_⟩, h2⟩
    · rw [eb1]; rfl
    · rw [eb1, List.append_nil]
      exact (hr a ha).app' (Γ := [(N, ⟨l.flatMap actC, false⟩)])
theorem arg_pair {ts : List TypeId} {N : Nat} {av : List Value} {b : List (List Value)} (h : ArgS P (29 :: ts) N av b) : ∃ b0 b1 vs, av = agg [int b0, int b1] :: vs ∧ ArgS P ts N vs b := by
  obtain ⟨cs, vs, b1, b2, rfl, rfl, h1, h2⟩ := arg_agg h (.inr ⟨_, _, Go.Proofs.Try.underlying29⟩)
  have h3 := shp_arrayH Go.Proofs.Try.underlying29 h1
  have h3 : ShpL P (3 :: 3 :: []) N cs b1 := h3
  obtain ⟨x1, c1, rfl, _, h4⟩ := shp_int1 (k := .i64) Go.Proofs.Try.underlying3 h3
  obtain ⟨x2, c2, rfl, _, h5⟩ := shp_int1 (k := .i64) Go.Proofs.Try.underlying3 h4
  obtain ⟨rfl, rfl⟩ := shp_nil h5
  exact ⟨x1, x2, vs, rfl, by simpa using h2⟩
end J
