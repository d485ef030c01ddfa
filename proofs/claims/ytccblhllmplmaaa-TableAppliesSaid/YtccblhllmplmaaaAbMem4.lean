import Derived.Test.YtccblhllmplmaaaAbApp
namespace Go.Ab
open Go

section
variable {P : Program} {σ : Loc} {B : Nat} {h : Nat → Option Blk} {H H' : Heap} {w : World}

theorem copy_ok {dT sT ty : TypeId} {d d' x x' v : Value} (hs : SimF σ B h w) (had : AgV h H d) (hax : AgV h H x) (hvd : VR σ d d') (hvx : VR σ x x')
    (hr : (copyC P [dT, sT]).f [d, x] H = some (v, H')) : Does P B (Builtin.copy_ #[dT, sT] ty #[d', x']) w σ h H v H' := by
  unfold copyC at hr
  simp only at hr
  split at hr
  case h_2 => cases hr
  case h_1 e hu =>
  split at hr
  case h_2 => cases hr
  case h_1 size hsz =>
  split at hr
  case isFalse => cases hr
  case isTrue hp =>
  simp only [two, copyTo] at hr
  cases hvd <;> simp only at hr <;> try cases hr
  case slNil _ =>
    split at hr
    case h_2 => cases hr
    case h_1 sl hl =>
    split at hr
    case isFalse hc => simp at hc
    case isTrue hc =>
    cases hr
    have hl1 := len_ok (P := P) (w := w) hvx hl
    have hmin : Nat.min sl 0 = 0 := Nat.min_zero sl
    refine Does.pure hs ⟨.int .i64 0, ?_, .int⟩
    have hf : ∃ l', (Builtin.firstCells size 0 x').run P w = .ok l' w := by
      cases hvx <;> simp only [lenA] at hl <;> try cases hl
      · exact ⟨_, rfl⟩
      · exact ⟨_, rfl⟩
      · exact ⟨#[], by simp [Builtin.firstCells, loadCells, loadCellsFrom]⟩
      · exact ⟨#[], by simp [Builtin.firstCells, loadCells, loadCellsFrom]⟩
    obtain ⟨l', hf⟩ := hf
    simp only [Builtin.copy_, List.getElem?_toArray, List.getElem?_cons_zero, List.getElem?_cons_succ, Sem.run_bind, run_underlying hu, Result.andThen_ok, hl1, sizeB_run hsz, hmin, hf, Sem.run_pure]
    rfl
  case slFull id off len size' c o s a hσ hp' hadr _ =>
    split at hr
    case h_2 => cases hr
    case h_1 sl hl =>
    have hl1 := len_ok (P := P) (w := w) hvx hl
    split at hr
    case isTrue h0 =>
      cases hr
      have h0 := Nat.eq_of_beq_eq_true h0
      have hf : ∃ l' : List Value, (Builtin.firstCells size 0 x').run P w = .ok l'.toArray w ∧ l'.length = 0 := by
        cases hvx <;> simp only [lenA] at hl <;> try cases hl
        · rename_i s0 _ _; exact ⟨[], by show Result.ok ((s0.extract 0 0).data.map fun b => Value.int .u8 b.toNat) w = _; congr 1; apply Array.ext'; simp, rfl⟩
        · exact ⟨[], rfl, rfl⟩
        · exact ⟨[], by simp [Builtin.firstCells, loadCells, loadCellsFrom], rfl⟩
        · exact ⟨[], by simp [Builtin.firstCells, loadCells, loadCellsFrom], rfl⟩
      obtain ⟨l', hf, hl0⟩ := hf
      obtain rfl := List.length_eq_zero_iff.1 hl0
      refine Does.pure hs ⟨.int .i64 0, ?_, .int⟩
      simp only [Builtin.copy_, List.getElem?_toArray, List.getElem?_cons_zero, List.getElem?_cons_succ, Sem.run_bind, run_underlying hu, Result.andThen_ok, hl1, sizeB_run hsz, h0, hf, Sem.run_pure]
      rfl
    case isFalse h0 =>
      have h0 : Nat.min sl len ≠ 0 := fun e => by rw [e] at h0; simp at h0
      split at hr
      case h_2 => cases hr
      case h_1 new hne =>
      split at hr
      case h_2 => cases hr
      case h_1 H1 hw =>
      cases hr
      have hmin1 : Nat.min sl len ≤ sl := Nat.min_le_left _ _
      have hmin2 : Nat.min sl len ≤ len := Nat.min_le_right _ _
      obtain ⟨new', n1, n2, n3⟩ := elems_ok (P := P) hs hax hvx hl hmin1 hne
      obtain rfl : a = ⟨c, o + off, none⟩ := (hadr.resolve_left (by omega)).1
      obtain ⟨w', w1, w2, w3⟩ := write_ok (P := P) hs (had id rfl) hw n2 hσ H.next
      refine ⟨.int .i64 (Nat.min sl len), w', σ, ?_, .int, by rw [w3]; exact w2⟩
      simp only [Builtin.copy_, List.getElem?_toArray, List.getElem?_cons_zero, List.getElem?_cons_succ, Sem.run_bind, run_underlying hu, Result.andThen_ok, hl1, sizeB_run hsz, n1, Sem.run_pure, w1]
      rfl
  case slOpen id off len size' cap c o s a hσ hp' hle hadr _ =>
    split at hr
    case h_2 => cases hr
    case h_1 sl hl =>
    have hl1 := len_ok (P := P) (w := w) hvx hl
    split at hr
    case isTrue h0 =>
      cases hr
      have h0 := Nat.eq_of_beq_eq_true h0
      have hf : ∃ l' : List Value, (Builtin.firstCells size 0 x').run P w = .ok l'.toArray w ∧ l'.length = 0 := by
        cases hvx <;> simp only [lenA] at hl <;> try cases hl
        · rename_i s0 _ _; exact ⟨[], by show Result.ok ((s0.extract 0 0).data.map fun b => Value.int .u8 b.toNat) w = _; congr 1; apply Array.ext'; simp, rfl⟩
        · exact ⟨[], rfl, rfl⟩
        · exact ⟨[], by simp [Builtin.firstCells, loadCells, loadCellsFrom], rfl⟩
        · exact ⟨[], by simp [Builtin.firstCells, loadCells, loadCellsFrom], rfl⟩
      obtain ⟨l', hf, hl0⟩ := hf
      obtain rfl := List.length_eq_zero_iff.1 hl0
      refine Does.pure hs ⟨.int .i64 0, ?_, .int⟩
      simp only [Builtin.copy_, List.getElem?_toArray, List.getElem?_cons_zero, List.getElem?_cons_succ, Sem.run_bind, run_underlying hu, Result.andThen_ok, hl1, sizeB_run hsz, h0, hf, Sem.run_pure]
      rfl
    case isFalse h0 =>
      have h0 : Nat.min sl len ≠ 0 := fun e => by rw [e] at h0; simp at h0
      split at hr
      case h_2 => cases hr
      case h_1 new hne =>
      split at hr
      case h_2 => cases hr
      case h_1 H1 hw =>
      cases hr
      have hmin1 : Nat.min sl len ≤ sl := Nat.min_le_left _ _
      have hmin2 : Nat.min sl len ≤ len := Nat.min_le_right _ _
      obtain ⟨new', n1, n2, n3⟩ := elems_ok (P := P) hs hax hvx hl hmin1 hne
      obtain rfl : a = ⟨c, o + off, none⟩ := by
        rcases hadr with ⟨hh, _⟩ | ⟨hh, _⟩
        · exact hh
        · omega
      obtain ⟨w', w1, w2, w3⟩ := write_ok (P := P) hs (had id rfl) hw n2 hσ H.next
      refine ⟨.int .i64 (Nat.min sl len), w', σ, ?_, .int, by rw [w3]; exact w2⟩
      simp only [Builtin.copy_, List.getElem?_toArray, List.getElem?_cons_zero, List.getElem?_cons_succ, Sem.run_bind, run_underlying hu, Result.andThen_ok, hl1, sizeB_run hsz, n1, Sem.run_pure, w1]
      rfl

theorem clear_ok {t ty : TypeId} {x x' v : Value} (hs : SimF σ B h w) (hax : AgV h H x) (hvx : VR σ x x') (hr : (clearC P t).f x H = some (v, H')) :
    Does P B (Builtin.clear_ #[t] ty #[x']) w σ h H v H' := by
  unfold clearC at hr
  split at hr
  case h_2 => cases hr
  case h_1 e hu =>
  split at hr
  case h_2 => cases hr
  case h_1 z hz =>
  obtain ⟨z1, z2⟩ := zeroB_run hz w
  have zc : VRs σ (cellsL z) z.cells.toList := (constOk_VR z2).cells
  have hzc : ∀ n, (Builtin.zeroCells z.cells n).toList = repl n z.cells.toList := fun n => by
    unfold Builtin.zeroCells; exact repl_eq n z.cells
  simp only [clearTo] at hr
  have wr : ∀ (id off len : Nat) (c o s : Nat) (n1 : σ id = some (c, o, s)) (H1 : Heap), Ag h H id → writeCells H id off (repl len (cellsL z)) = some H1 →
      ∃ w', (storeCells ⟨c, o + off, none⟩ (Builtin.zeroCells z.cells len).toList).run P w = .ok () w' ∧ Goes B σ h H.next w σ (upd h H H1) H1.next w' := by
    intro id off len c o s n1 H1 ha hw
    rw [hzc]
    obtain ⟨w', w1, w2, w3⟩ := write_ok (P := P) hs ha hw (zc.repl len) n1 H.next
    exact ⟨w', w1, by rw [w3]; exact w2⟩
  cases hvx <;> simp only at hr <;> try cases hr
  case slNil _ =>
    exact Does.pure hs ⟨.tuple #[], by simp [Builtin.clear_, run_underlying hu], .tuple _ _ .nil .nil⟩
  case slFull id off len size' c o s a hσ hp' hadr _ =>
    split at hr
    · rename_i h0
      cases hr
      have h0 := Nat.eq_of_beq_eq_true h0
      subst h0
      exact Does.pure hs ⟨.tuple #[], by simp [Builtin.clear_, run_underlying hu], .tuple _ _ .nil .nil⟩
    · rename_i h0
      have h0 : len ≠ 0 := fun e => by subst e; simp at h0
      split at hr
      case h_2 => cases hr
      case h_1 H1 hw =>
      cases hr
      obtain rfl : a = ⟨c, o + off, none⟩ := (hadr.resolve_left h0).1
      obtain ⟨w', w1, w2⟩ := wr id off len c o s hσ _ (hax id rfl) hw
      refine ⟨.tuple #[], w', σ, ?_, .tuple _ _ .nil .nil, w2⟩
      obtain ⟨m, rfl⟩ : ∃ m, len = m + 1 := ⟨len - 1, by omega⟩
      simp [Builtin.clear_, run_underlying hu, z1, w1]
  case slOpen id off len size' cap c o s a hσ hp' hle hadr _ =>
    split at hr
    · rename_i h0
      cases hr
      have h0 := Nat.eq_of_beq_eq_true h0
      subst h0
      exact Does.pure hs ⟨.tuple #[], by simp [Builtin.clear_, run_underlying hu], .tuple _ _ .nil .nil⟩
    · rename_i h0
      have h0 : len ≠ 0 := fun e => by subst e; simp at h0
      split at hr
      case h_2 => cases hr
      case h_1 H1 hw =>
      cases hr
      obtain rfl : a = ⟨c, o + off, none⟩ := by
        rcases hadr with ⟨hh, _⟩ | ⟨hh, _⟩
        · exact hh
        · omega
      obtain ⟨w', w1, w2⟩ := wr id off len c o s hσ _ (hax id rfl) hw
      refine ⟨.tuple #[], w', σ, ?_, .tuple _ _ .nil .nil, w2⟩
      obtain ⟨m, rfl⟩ : ∃ m, len = m + 1 := ⟨len - 1, by omega⟩
      simp [Builtin.clear_, run_underlying hu, z1, w1]

theorem len_builtin_ok {t ty : TypeId} {x x' v : Value} (hvx : VR σ x x') (hr : (lenC P t).f x H = some (v, H')) :
    H' = H ∧ ∃ v', (Builtin.len_ #[t] ty #[x']).run P w = .ok v' w ∧ VR σ v v' := by
  unfold lenC at hr
  cases hu : P.underlying t with
  | none => rw [hu] at hr; cases hr
  | some td =>
    rw [hu] at hr
    cases td <;> simp only at hr <;> first | (cases hr; done) | skip
    case array n e => cases hr; exact ⟨rfl, _, by simp [Builtin.len_, run_underlying hu]; rfl, .int⟩
    case string =>
      cases hvx <;> simp only at hr <;> cases hr
      rename_i s _
      refine ⟨rfl, .int .i64 (Int.ofNat (lenN s.data.toList)), ?_, .int⟩
      have : lenN s.data.toList = s.size := by rw [lenN_eq, Array.length_toList]; rfl
      rw [this]
      simp [Builtin.len_, run_underlying hu, goInt]
    case slice e =>
      cases hvx <;> simp only at hr <;> cases hr
      all_goals exact ⟨rfl, _, by simp [Builtin.len_, run_underlying hu, goInt], .int⟩

theorem minL_ok : ∀ (l l' : List Value) (x : Int) (k : IntKind) (v : Value), VRs σ l l' → minL x l k = some v → (List.foldlM Builtin.min2 (.int k x) l').run P w = .ok v w ∧ VR σ v v
  | [], l', x, k, v, hv, hr => by rw [hv.nil_inv]; cases hr; exact ⟨rfl, .int⟩
  | y :: r, l', x, k, v, hv, hr => by
    obtain ⟨y', r', rfl, hy, hr'⟩ := hv.uncons
    unfold minL at hr
    cases y <;> simp only at hr <;> try cases hr
    rename_i k2 n
    rw [hy.int_inv]
    have ih := minL_ok r r' _ k v hr' hr
    simp only [List.foldlM_cons, Sem.run_bind]
    have e : (Builtin.min2 (.int k x) (.int k2 n)).run P w = .ok (.int k (cond (leB x n) x n)) w := by
      simp only [Builtin.min2, Sem.run_pure]
      congr 2
      rw [leB_eq]
      by_cases hh : n < x
      · rw [if_pos hh]; simp [show ¬ x ≤ n by omega]
      · rw [if_neg hh]; simp [show x ≤ n by omega]
    rw [e, Result.andThen_ok]
    exact ih
theorem maxL_ok : ∀ (l l' : List Value) (x : Int) (k : IntKind) (v : Value), VRs σ l l' → maxL x l k = some v → (List.foldlM Builtin.max2 (.int k x) l').run P w = .ok v w ∧ VR σ v v
  | [], l', x, k, v, hv, hr => by rw [hv.nil_inv]; cases hr; exact ⟨rfl, .int⟩
  | y :: r, l', x, k, v, hv, hr => by
    obtain ⟨y', r', rfl, hy, hr'⟩ := hv.uncons
    unfold maxL at hr
    cases y <;> simp only at hr <;> try cases hr
    rename_i k2 n
    rw [hy.int_inv]
    have ih := maxL_ok r r' _ k v hr' hr
    simp only [List.foldlM_cons, Sem.run_bind]
    have e : (Builtin.max2 (.int k x) (.int k2 n)).run P w = .ok (.int k (cond (leB n x) x n)) w := by
      simp only [Builtin.max2, Sem.run_pure]
      congr 2
      rw [leB_eq]
      by_cases hh : n > x
      · rw [if_pos hh]; simp [show ¬ n ≤ x by omega]
      · rw [if_neg hh]; simp [show n ≤ x by omega]
    rw [e, Result.andThen_ok]
    exact ih

theorem nilCheck_ok {x x' v : Value} (hr : nilCheckA x = some v) (hx : VR σ x x') (o : Oper) (op : Operand) (ho : o.op = .nilCheck op) (ρ : Operand → Value) (hρ : ρ op = x') :
    (execOp ρ o).run P w = .ok (.value x') w ∧ VR σ v x' := by
  unfold nilCheckA at hr
  unfold execOp
  rw [ho]
  simp only [hρ]
  cases hx <;> simp only at hr <;> cases hr
  · rename_i id off c oo s h0 _; exact ⟨rfl, .ptr _ _ _ _ _ h0 .nil⟩
  · rename_i f x x' y y' h1 h2 _; exact ⟨rfl, .func _ _ _ _ _ h1 h2 .nil⟩
  · rename_i t u u' h1 _; exact ⟨rfl, .iface _ _ _ h1 .nil⟩
end
end Go.Ab
