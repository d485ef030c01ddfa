/- texts of the proof, one behind the other -/
import Derived.Test.YtdiimfnakedaoaaGreatDoorUB
set_option linter.unusedSimpArgs false
set_option linter.unusedSectionVars false
set_option linter.unusedVariables false
set_option maxRecDepth 100000
namespace J
open Go Go.Ab
variable [lp : LpC]
variable {H : Heap} {Γ : List (Nat × Blk)} {K : Value → Heap → Prop} {v w x : Value} {xs ys : List Int} {j p : Nat} {e : Int}
abbrev agg (l : List Value) : Value := .agg l.toArray
theorem loadAll_at {p n : Nat} {cs : List Value} {w : Bool} {K : Value → Heap → Prop} (h : St H Γ) (i : Nat) (hi : Γ[i]? = some (p, ⟨cs, w⟩)) (hn : cs.length = n) (hp : 0 < n) (hk : K (agg cs) H) : opW (loadAgg n (ptr p 0) H) K := by
  refine loadAgg_at h i hi (show _ = cs from ?_) hn hp hk
  rw [List.drop_zero]
  exact List.take_of_length_le (Nat.le_of_eq hn)
theorem storeAll_at {p n : Nat} {cs new : List Value} {K : Value → Heap → Prop} (h : St H Γ) (i : Nat) (hi : Γ[i]? = some (p, ⟨cs, true⟩)) (hn : cs.length = n) (hl : new.length = n) (h1 : new.all oneCell = true)
    (hk : ∀ H', St H' (Γ.set i (p, ⟨new, true⟩)) → K undef H') : opW (storeTo n (ptr p 0) (agg new) H) K := by
  refine store_at h i hi hl (by omega) h1 fun H' hO => hk H' ?_
  have e : cs.take 0 ++ (cellsL (agg new) ++ cs.drop (0 + n)) = new := by
    rw [List.drop_of_length_le (by omega)]
    show [] ++ (new ++ []) = new
    simp
  rw [e] at hO; exact hO
noncomputable def crc1 (r : Nat) : Nat := Nat.xor (r / 2) (Nat.land 3988292384 ((4294967296 - Nat.land r 1) % 4294967296))
noncomputable def crcN (i r : Nat) : Nat := Nat.rec (motive := fun _ => Nat) r (fun _ x => crc1 x) i
theorem crc1_lt {r : Nat} (h : r < 4294967296) : crc1 r < 4294967296 :=
  Nat.xor_lt_two_pow (n := 32) (by omega) (Nat.and_lt_two_pow (n := 32) _ (Nat.mod_lt _ (by omega)))
theorem crcN_lt {r : Nat} (h : r < 4294967296) : ∀ i, crcN i r < 4294967296
  | 0 => h
  | i + 1 => crc1_lt (crcN_lt h i)
theorem crc_step_spec {r : Nat} (hr : r < 4294967296) (hk : K (uint .u32 (crcN 8 r)) H) : wCall P n_crc_step [uint .u32 r] H K := by
  apply crc_step_ok; unfold crc_step
  refine crc_step_L0_ind (fun k l' H' => ∃ y : Nat, y ≤ 8 ∧ k = 8 - y ∧ l' = [uint .u32 (crcN y r), .int .u32 0, int y] ∧ H' = H) _ _ ?_ 8 _ _ ⟨0, by omega, rfl, rfl, rfl⟩
  rintro k l' H' ⟨y, hy, rfl, rfl, rfl⟩
  unfold crc_step_L0
  try simp only [nth_zero, nth_succ]
  have hb := crcN_lt hr y
  repeat (first | refine oi ?_ | refine ow ?_ | refine wy ?_ | refine wn ?_ | refine wt ?_ | refine wf' ?_ | refine cy ?_ | refine cn ?_)
  refine wIf_dec (fun h => ?_) (fun h => ?_)
  · have h1 : crcN y r &&& 1 < 4294967296 := Nat.and_lt_two_pow (n := 32) _ (by omega)
    refine opP_i (bin_shrU (n := 1) rfl (by decide)) ?_
    refine opP_i (bin_andU (b := 1) rfl hb (by decide)) ?_
    refine opP_i (un_negU rfl h1) ?_
    refine opP_i (bin_andU (a := 3988292384) rfl (by decide) (Nat.mod_lt _ (by decide))) ?_
    refine opP_i (bin_xorU rfl (show crcN y r / 2 < 4294967296 by omega) (Nat.and_lt_two_pow (n := 32) _ (Nat.mod_lt _ (by decide)))) ?_
    repeat (first | refine oi ?_ | refine ow ?_ | refine wy ?_ | refine wn ?_ | refine wt ?_ | refine wf' ?_ | refine cy ?_ | refine cn ?_)
    exact ⟨_, by omega, y + 1, by omega, rfl, rfl, trivial⟩
  · have e : y = 8 := by omega
    subst e
    repeat (first | refine oi ?_ | refine ow ?_ | refine wy ?_ | refine wn ?_ | refine wt ?_ | refine wf' ?_ | refine cy ?_ | refine cn ?_)
    exact hk
abbrev MadeB (Γ : List (Nat × Blk)) (K : Value → Heap → Prop) (xs : List Int) : Prop := ∀ (H' : Heap) (v' : Value) (cs' : List Value), St H' (Γ ++ outB v' cs') → OwnB v' xs cs' → K v' H'
theorem MadeB.none (h : MadeB Γ K []) (hO : St H Γ) : K nilSl H := h H nilSl [] (by show St H (Γ ++ []); rw [List.append_nil]; exact hO) OwnB.nil
theorem bs46_0 (H : Heap) : (buildSliceC P 28 0).f [] H = some (sl H.next 0 0 3, H.push []) := by kernel_rfl
def tkB (xs : List Int) (e : Int) (n : Nat) : List Int := if e = 0 ∧ n ≤ xs.length then xs.take n else []
abbrev Inh (v : Value) (xs : List Int) (v' : Value) (ys : List Int) : Prop := ∀ Γ' : List (Nat × Blk), RdB Γ' v xs → RdB Γ' v' ys
theorem Inh.none {v : Value} {xs : List Int} : Inh v xs nilSl [] := fun _ _ => .nil
theorem RdB.bytes (hb : ∀ x ∈ xs, 0 ≤ x ∧ x ≤ 255) (n : Nat) (e : Int) : ∀ x ∈ tkB xs e n, 0 ≤ x ∧ x ≤ 255 := by
  unfold tkB
  split
  · exact fun x hx => hb x (List.mem_of_mem_take hx)
  · simp
end J
set_option linter.unusedVariables false
set_option linter.unusedSimpArgs false
set_option maxRecDepth 100000
namespace J
open Go Go.Ab
variable [lp : LpC]
variable {H : Heap} {Γ : List (Nat × Blk)} {K : Value → Heap → Prop} {v w x : Value} {xs ys : List Int} {j p : Nat} {e : Int}
section
variable {α : Type} {f : α → List Value} {l : List α} {n i o m : Nat}
end
def blank : List Int := List.replicate 64 255
def zeros : List Int := List.replicate 64 0
theorem by8_one (s : List Int) : (by8 s).all oneCell = true := by simp [by8, oneCell]
end J
set_option linter.unusedVariables false
set_option linter.unusedSimpArgs false
set_option maxRecDepth 100000
namespace J
open Go Go.Ab
variable [lp : LpC]
variable {H : Heap} {Γ : List (Nat × Blk)} {K : Value → Heap → Prop} {v w x : Value} {xs ys : List Int} {j p : Nat} {e : Int}
structure Cell where
  kept : List Int
  seen : List Int
  wear : Int
structure Dv where
  cells : List Cell
  done : List (Nat × List Int)
  most : Int
  budget : Int
  down : Bool
structure Cell.Ok (c : Cell) : Prop where
  k : c.kept.length = 64
  s : c.seen.length = 64
  w : 0 ≤ c.wear ∧ c.wear ≤ 100000
structure Dv.Ok (d : Dv) : Prop where
  c : ∀ c ∈ d.cells, c.Ok
  n : d.cells.length ≤ 4096
  ds : ∀ x ∈ d.done, x.1 < d.cells.length ∧ x.2.length = 64
  m : d.most ≤ 100000
  b : -1 ≤ d.budget ∧ d.budget ≤ 9223372036854775807
def Dv.has (d : Dv) (at' : Int) : Prop := 0 ≤ at' ∧ at' < d.cells.length
instance (d : Dv) (at' : Int) : Decidable (d.has at') := by unfold Dv.has; infer_instance
variable {pd pc : Nat} {vd : Value} {d : Dv} {a : Int}
def zCell : Cell := ⟨zeros, zeros, 0⟩
def Dv.cell (d : Dv) (a : Int) : Cell := d.cells.getD a.toNat zCell
theorem Dv.get {d : Dv} {a : Int} (h : d.has a) : ∃ hi : a.toNat < d.cells.length, d.cells[a.toNat] = d.cell a := by
  have hi : a.toNat < d.cells.length := by have := h.1; have := h.2; omega
  refine ⟨hi, ?_⟩
  unfold Dv.cell
  rw [List.getD_eq_getElem?_getD, List.getElem?_eq_getElem hi]; rfl
theorem Dv.cellOk {d : Dv} {a : Int} (ok : ∀ c ∈ d.cells, c.Ok) (h : d.has a) : (d.cell a).Ok := by
  obtain ⟨hi, e⟩ := Dv.get h
  rw [← e]
  exact ok _ (List.getElem_mem hi)
def Dv.read (d : Dv) (a : Int) : List Int × Int := if d.has a then ((d.cell a).seen, 0) else (zeros, 61)
def Dv.step (d : Dv) : Dv := { d with down := d.down || decide (d.budget = 0), budget := if ¬ (d.down = true ∨ d.budget = 0) ∧ 0 < d.budget then d.budget - 1 else d.budget }
end J
set_option linter.unusedVariables false
set_option linter.unusedSimpArgs false
set_option maxRecDepth 100000
namespace J
open Go Go.Ab
variable [lp : LpC]
variable {H : Heap} {Γ : List (Nat × Blk)} {K : Value → Heap → Prop} {v w x : Value} {xs ys : List Int} {j p : Nat} {e : Int}
variable {pd pc : Nat} {vd : Value} {d : Dv} {a : Int} {s : List Int}
def Dv.upd (d : Dv) (a : Int) (c : Cell) : Dv := { d with cells := d.cells.set a.toNat c }
def Dv.put (d : Dv) (a : Int) (s : List Int) : Dv := { d with cells := d.cells.set a.toNat { d.cell a with seen := s }, done := d.done ++ [(a.toNat, s)] }
end J
set_option linter.unusedVariables false
set_option linter.unusedSimpArgs false
set_option maxRecDepth 100000
namespace J
open Go Go.Ab
variable [lp : LpC]
variable {H : Heap} {Γ : List (Nat × Blk)} {K : Value → Heap → Prop} {v w x : Value} {xs ys : List Int} {j p : Nat} {e : Int}
variable {pd pc : Nat} {vd : Value} {d : Dv} {a : Int} {s : List Int}
theorem Dv.step_ok (ok : d.Ok) : d.step.Ok := ⟨ok.c, ok.n, ok.ds, ok.m, by
  have := ok.b
  unfold Dv.step
  by_cases h : ¬ (d.down = true ∨ d.budget = 0) ∧ 0 < d.budget
  · rw [if_pos h]; have := h.2; show -1 ≤ d.budget - 1 ∧ d.budget - 1 ≤ _; omega
  · rw [if_neg h]; exact this⟩
theorem mem_set_ok {l : List Cell} {i : Nat} {c : Cell} (h : ∀ c ∈ l, c.Ok) (hc : c.Ok) : ∀ x ∈ l.set i c, x.Ok := by
  intro x hx
  rcases List.mem_or_eq_of_mem_set hx with h' | h'
  · exact h x h'
  · rw [h']; exact hc
theorem Dv.upd_ok {c : Cell} (ok : d.Ok) (hc : c.Ok) : (d.upd a c).Ok := ⟨mem_set_ok ok.c hc, by show (d.cells.set _ _).length ≤ _; rw [List.length_set]; exact ok.n, by
  intro x hx
  show x.1 < (d.cells.set _ _).length ∧ _
  rw [List.length_set]; exact ok.ds x hx, ok.m, ok.b⟩
theorem Dv.put_ok (ok : d.Ok) (h : d.has a) (hs : s.length = 64) : (d.put a s).Ok := by
  have hc := Dv.cellOk ok.c h
  refine ⟨mem_set_ok ok.c ⟨hc.k, hs, hc.w⟩, by show (d.cells.set _ _).length ≤ _; rw [List.length_set]; exact ok.n, ?_, ok.m, ok.b⟩
  intro x hx
  show x.1 < (d.cells.set _ _).length ∧ _
  rw [List.length_set]
  rcases List.mem_append.1 hx with hx | hx
  · exact ok.ds x hx
  · have : x = (a.toNat, s) := by simpa using hx
    subst this
    exact ⟨by have := h.1; have := h.2; show a.toNat < _; omega, hs⟩
def Dv.erase (d : Dv) (a : Int) : Dv × Int :=
  if ¬ d.has a then (d, 61) else if d.down = true then (d, 62) else if d.most ≤ (d.cell a).wear then (d, 64) else if d.step.down = true then (d.step, 62)
  else ((d.step.upd a { d.cell a with wear := (d.cell a).wear + 1 }).put a blank, 0)
end J
set_option linter.unusedVariables false
set_option linter.unusedSimpArgs false
set_option maxRecDepth 100000
namespace J
open Go Go.Ab
variable [lp : LpC]
variable {H : Heap} {Γ : List (Nat × Blk)} {K : Value → Heap → Prop} {v w x : Value} {xs ys : List Int} {j p : Nat} {e : Int}
variable {pd pc : Nat} {vd : Value} {d : Dv} {a : Int} {s : List Int}
end J
set_option linter.unusedVariables false
set_option linter.unusedSimpArgs false
set_option maxRecDepth 100000
namespace J
open Go Go.Ab
variable [lp : LpC]
variable {H : Heap} {Γ : List (Nat × Blk)} {K : Value → Heap → Prop} {v w x : Value} {xs ys : List Int} {j p : Nat} {e : Int}
variable {pd pc : Nat} {vd : Value} {d : Dv} {a : Int} {s : List Int}
end J
set_option linter.unusedVariables false
set_option linter.unusedSimpArgs false
set_option maxRecDepth 100000
namespace J
open Go Go.Ab
variable [lp : LpC]
variable {H : Heap} {Γ : List (Nat × Blk)} {K : Value → Heap → Prop} {v w x : Value} {xs ys : List Int} {j p : Nat} {e : Int}
variable {pd pc : Nat} {vd : Value} {d : Dv} {a : Int} {s : List Int}
def bCell0 : Cell := ⟨blank, blank, 0⟩
def Dv.new (n : Nat) (w : Int) : Dv := ⟨List.replicate n bCell0, [], w, -1, false⟩
end J
set_option linter.unusedVariables false
set_option linter.unusedSimpArgs false
set_option maxRecDepth 100000
namespace J
open Go Go.Ab
variable [lp : LpC]
variable {H : Heap} {Γ : List (Nat × Blk)} {K : Value → Heap → Prop} {v w x : Value} {xs ys : List Int} {j p : Nat} {e : Int}
structure Op where
  kind : Int
  part : Int
  pos : Int
  who : Int
structure Mp where
  d : Dv
  spans : List (Nat × Nat)
  who : Int
  ops : List Op
def opC (o : Op) : List Value := [int o.kind, int o.part, int o.pos, int o.who]
structure Mloc where
  pm : Nat
  pd : Nat
  pc : Nat
  ps : Nat
  vd : Value
  vo : Value
def mv (L : Mloc) (m : Mp) : List Value := [ptr L.pd 0, sl L.ps 0 m.spans.length 4, int m.who, L.vo]
structure Mloc.Eq (L L' : Mloc) : Prop where
  m : L'.pm = L.pm
  d : L'.pd = L.pd
  c : L'.pc = L.pc
  s : L'.ps = L.ps
structure Mp.Ok (m : Mp) : Prop where
  d : m.d.Ok
  s : ∀ x ∈ m.spans, x.1 + x.2 ≤ m.d.cells.length
  n : m.spans.length ≤ 16
def Mp.Sm (m : Mp) (N : Nat) : Prop := m.d.done.length ≤ N ∧ m.ops.length ≤ N
variable {L : Mloc} {m : Mp} {part pos : Int}
def Mp.has (m : Mp) (part : Int) : Prop := 0 ≤ part ∧ part < m.spans.length
instance : Decidable (m.has part) := by unfold Mp.has; infer_instance
def Mp.span (m : Mp) (part : Int) : Nat × Nat := m.spans.getD part.toNat (0, 0)
def Mp.size (m : Mp) (part : Int) : Nat := if m.has part then (m.span part).2 else 0
def Mp.place (m : Mp) (part pos : Int) : Int × Int := if ¬ m.has part then (0, 71) else if pos < 0 ∨ (m.span part).2 ≤ pos then (0, 61) else ((m.span part).1 + pos, 0)
def Mp.read (m : Mp) (part pos : Int) : List Int × Int := if (m.place part pos).2 ≠ 0 then (zeros, (m.place part pos).2) else m.d.read (m.place part pos).1
def Mp.note (m : Mp) (o : Op) (e : Int) : Mp := if e = 0 then { m with ops := m.ops ++ [{ o with who := m.who }] } else m
end J
set_option linter.unusedVariables false
set_option linter.unusedSimpArgs false
set_option maxRecDepth 100000
namespace J
open Go Go.Ab
variable [lp : LpC]
variable {H : Heap} {Γ : List (Nat × Blk)} {K : Value → Heap → Prop} {v w x : Value} {xs ys : List Int} {j p : Nat} {e : Int}
variable {L : Mloc} {m : Mp} {part pos : Int} {s : List Int}
def Mp.erase (m : Mp) (part pos : Int) : Mp × Int := if (m.place part pos).2 ≠ 0 then (m, (m.place part pos).2) else (({ m with d := (m.d.erase (m.place part pos).1).1 } : Mp).note ⟨1, part, pos, 0⟩ (m.d.erase (m.place part pos).1).2, (m.d.erase (m.place part pos).1).2)
theorem Mp.Sm.mono {N M : Nat} (h : m.Sm N) (hm : N ≤ M) : m.Sm M := ⟨Nat.le_trans h.1 hm, Nat.le_trans h.2 hm⟩
theorem Mloc.Eq.trans {L L' L'' : Mloc} (h : L.Eq L') (h' : L'.Eq L'') : L.Eq L'' := ⟨h'.m.trans h.m, h'.d.trans h.d, h'.c.trans h.c, h'.s.trans h.s⟩
end J
set_option linter.unusedVariables false
set_option linter.unusedSimpArgs false
set_option maxRecDepth 100000
namespace J
open Go Go.Ab
variable [lp : LpC]
variable {H : Heap} {Γ : List (Nat × Blk)} {K : Value → Heap → Prop} {v w x : Value} {xs ys bs : List Int} {j p : Nat} {e : Int}
variable {L : Mloc} {m : Mp} {part pos : Int} {s : List Int}
end J
set_option linter.unusedVariables false
set_option linter.unusedSimpArgs false
set_option maxRecDepth 100000
namespace J
open Go Go.Ab
variable [lp : LpC]
def rr (x n : Nat) : Nat := x / 2 ^ n ||| x * 2 ^ (32 - n) % 4294967296
def turnN (x : Nat) (l : List Nat) : Nat := l.foldl (fun o n => o ^^^ rr x n) 0
def wWord (b : List Int) (t : Nat) : Nat := 16777216 * (b.getD (4 * t) 0).toNat + 65536 * (b.getD (4 * t + 1) 0).toNat + 256 * (b.getD (4 * t + 2) 0).toNat + (b.getD (4 * t + 3) 0).toNat
def wNext (b : List Int) (w : List Nat) (t : Nat) : Nat := if t < 16 then wWord b t else
  (w.getD (t - 16) 0 + (turnN (w.getD (t - 15) 0) [7, 18] ^^^ w.getD (t - 15) 0 / 8) + w.getD (t - 7) 0 + (turnN (w.getD (t - 2) 0) [17, 19] ^^^ w.getD (t - 2) 0 / 1024)) % 4294967296
def wUp (b : List Int) : Nat → List Nat
  | 0 => []
  | t + 1 => wUp b t ++ [wNext b (wUp b t) t]
def chF (e f g : Nat) : Nat := (e &&& f) ^^^ ((4294967295 - e) &&& g)
def majF (a b c : Nat) : Nat := ((a &&& b) ^^^ (a &&& c)) ^^^ (b &&& c)
structure W8 where
  a : Nat
  b : Nat
  c : Nat
  d : Nat
  e : Nat
  f : Nat
  g : Nat
  h : Nat
structure W8.Ok (x : W8) : Prop where
  a : x.a < 4294967296
  b : x.b < 4294967296
  c : x.c < 4294967296
  d : x.d < 4294967296
  e : x.e < 4294967296
  f : x.f < 4294967296
  g : x.g < 4294967296
  h : x.h < 4294967296
def W8.l (x : W8) : List Nat := [x.a, x.b, x.c, x.d, x.e, x.f, x.g, x.h]
def t1F (x : W8) (k w : Nat) : Nat := (x.h + turnN x.e [6, 11, 25] + chF x.e x.f x.g + k + w) % 4294967296
def t2F (x : W8) : Nat := (turnN x.a [2, 13, 22] + majF x.a x.b x.c) % 4294967296
def rndF (x : W8) (k w : Nat) : W8 := ⟨(t1F x k w + t2F x) % 4294967296, x.a, x.b, x.c, (x.d + t1F x k w) % 4294967296, x.e, x.f, x.g⟩
def kTab : List Nat := [0x428a2f98, 0x71374491, 0xb5c0fbcf, 0xe9b5dba5, 0x3956c25b, 0x59f111f1, 0x923f82a4, 0xab1c5ed5, 0xd807aa98, 0x12835b01, 0x243185be, 0x550c7dc3, 0x72be5d74, 0x80deb1fe, 0x9bdc06a7, 0xc19bf174,
  0xe49b69c1, 0xefbe4786, 0x0fc19dc6, 0x240ca1cc, 0x2de92c6f, 0x4a7484aa, 0x5cb0a9dc, 0x76f988da, 0x983e5152, 0xa831c66d, 0xb00327c8, 0xbf597fc7, 0xc6e00bf3, 0xd5a79147, 0x06ca6351, 0x14292967,
  0x27b70a85, 0x2e1b2138, 0x4d2c6dfc, 0x53380d13, 0x650a7354, 0x766a0abb, 0x81c2c92e, 0x92722c85, 0xa2bfe8a1, 0xa81a664b, 0xc24b8b70, 0xc76c51a3, 0xd192e819, 0xd6990624, 0xf40e3585, 0x106aa070,
  0x19a4c116, 0x1e376c08, 0x2748774c, 0x34b0bcb5, 0x391c0cb3, 0x4ed8aa4a, 0x5b9cca4f, 0x682e6ff3, 0x748f82ee, 0x78a5636f, 0x84c87814, 0x8cc70208, 0x90befffa, 0xa4506ceb, 0xbef9a3f7, 0xc67178f2]
def rndN (w : List Nat) (x : W8) : Nat → W8
  | 0 => x
  | t + 1 => rndF (rndN w x t) (kTab.getD t 0) (w.getD t 0)
def addW (x y : W8) : W8 := ⟨(x.a + y.a) % 4294967296, (x.b + y.b) % 4294967296, (x.c + y.c) % 4294967296, (x.d + y.d) % 4294967296, (x.e + y.e) % 4294967296, (x.f + y.f) % 4294967296, (x.g + y.g) % 4294967296, (x.h + y.h) % 4294967296⟩
def mixF (s : W8) (b : List Int) : W8 := addW s (rndN (wUp b 64) s 64)
def begW : W8 := ⟨0x6a09e667, 0xbb67ae85, 0x3c6ef372, 0xa54ff53a, 0x510e527f, 0x9b05688c, 0x1f83d9ab, 0x5be0cd19⟩
def stN (xs : List Int) : Nat → W8
  | 0 => begW
  | n + 1 => mixF (stN xs n) ((xs.drop (64 * n)).take 64)
def dSt (xs : List Int) : W8 := stN xs (xs.length / 64)
def be8 (n : Nat) : List Int := (List.range 8).map fun i => ((n / 2 ^ (56 - 8 * i) % 256 : Nat) : Int)
def padZ (n : Nat) : Nat := (119 - n % 64) % 64
def padB (xs : List Int) : List Int := xs ++ [128] ++ List.replicate (padZ xs.length) 0 ++ be8 (8 * xs.length)
def be4 (w : Nat) : List Int := [((w / 16777216 % 256 : Nat) : Int), ((w / 65536 % 256 : Nat) : Int), ((w / 256 % 256 : Nat) : Int), ((w % 256 : Nat) : Int)]
def hashB (s : W8) : List Int := s.l.flatMap be4
def sha (xs : List Int) : List Int := hashB (dSt (padB xs))
theorem rr_lt {x n : Nat} (h : x < 4294967296) : rr x n < 4294967296 := Nat.or_lt_two_pow (n := 32) (Nat.lt_of_le_of_lt (Nat.div_le_self _ _) h) (Nat.mod_lt _ (by omega))
theorem turnF_lt {x : Nat} (h : x < 4294967296) : ∀ (l : List Nat) (o : Nat), o < 4294967296 → l.foldl (fun o n => o ^^^ rr x n) o < 4294967296
  | [], _, ho => ho
  | n :: l, o, ho => turnF_lt h l _ (Nat.xor_lt_two_pow (n := 32) ho (rr_lt h))
theorem turnN_lt {x : Nat} {l : List Nat} (h : x < 4294967296) : turnN x l < 4294967296 := turnF_lt h l 0 (by omega)
theorem chF_lt {e f g : Nat} (he : e < 4294967296) (hf : f < 4294967296) (hg : g < 4294967296) : chF e f g < 4294967296 :=
  Nat.xor_lt_two_pow (n := 32) (Nat.and_lt_two_pow (n := 32) _ hf) (Nat.and_lt_two_pow (n := 32) _ hg)
theorem majF_lt {a b c : Nat} (hb : b < 4294967296) (hc : c < 4294967296) : majF a b c < 4294967296 :=
  Nat.xor_lt_two_pow (n := 32) (Nat.xor_lt_two_pow (n := 32) (Nat.and_lt_two_pow (n := 32) _ hb) (Nat.and_lt_two_pow (n := 32) _ hc)) (Nat.and_lt_two_pow (n := 32) _ hc)
theorem rndF_ok {x : W8} {k w : Nat} (h : x.Ok) : (rndF x k w).Ok := ⟨Nat.mod_lt _ (by omega), h.a, h.b, h.c, Nat.mod_lt _ (by omega), h.e, h.f, h.g⟩
theorem rndN_ok {x : W8} {w : List Nat} (h : x.Ok) : ∀ t, (rndN w x t).Ok
  | 0 => h
  | t + 1 => rndF_ok (rndN_ok h t)
theorem addW_ok {x y : W8} : (addW x y).Ok := ⟨Nat.mod_lt _ (by omega), Nat.mod_lt _ (by omega), Nat.mod_lt _ (by omega), Nat.mod_lt _ (by omega), Nat.mod_lt _ (by omega), Nat.mod_lt _ (by omega), Nat.mod_lt _ (by omega), Nat.mod_lt _ (by omega)⟩
theorem begW_ok : begW.Ok := ⟨by decide, by decide, by decide, by decide, by decide, by decide, by decide, by decide⟩
theorem stN_ok {xs : List Int} : ∀ n, (stN xs n).Ok
  | 0 => begW_ok
  | n + 1 => addW_ok
theorem wUp_len {b : List Int} : ∀ t, (wUp b t).length = t
  | 0 => rfl
  | t + 1 => by show (wUp b t ++ [_]).length = t + 1; rw [List.length_append, wUp_len t]; rfl
theorem by_getD {b : List Int} (h : ∀ x ∈ b, 0 ≤ x ∧ x ≤ 255) (i : Nat) : (b.getD i 0).toNat < 256 := by
  rw [List.getD_eq_getElem?_getD]
  by_cases hi : i < b.length
  · rw [List.getElem?_eq_getElem hi]
    have := h _ (List.getElem_mem hi)
    show (b[i]).toNat < 256
    omega
  · rw [List.getElem?_eq_none (by omega)]; decide
theorem wWord_lt {b : List Int} (h : ∀ x ∈ b, 0 ≤ x ∧ x ≤ 255) (t : Nat) : wWord b t < 4294967296 := by
  have h0 := by_getD h (4 * t)
  have h1 := by_getD h (4 * t + 1)
  have h2 := by_getD h (4 * t + 2)
  have h3 := by_getD h (4 * t + 3)
  unfold wWord
  omega
theorem wNext_lt {b : List Int} {w : List Nat} (h : ∀ x ∈ b, 0 ≤ x ∧ x ≤ 255) (t : Nat) : wNext b w t < 4294967296 := by
  unfold wNext
  split
  · exact wWord_lt h t
  · exact Nat.mod_lt _ (by omega)
theorem wUp_lt {b : List Int} (h : ∀ x ∈ b, 0 ≤ x ∧ x ≤ 255) : ∀ t, ∀ x ∈ wUp b t, x < 4294967296
  | 0, x, hx => by cases hx
  | t + 1, x, hx => by
    rcases List.mem_append.1 (show x ∈ wUp b t ++ [wNext b (wUp b t) t] from hx) with hx | hx
    · exact wUp_lt h t x hx
    · rw [List.mem_singleton.1 hx]; exact wNext_lt h t
theorem getD_lt {w : List Nat} (h : ∀ x ∈ w, x < 4294967296) (i : Nat) : w.getD i 0 < 4294967296 := by
  rw [List.getD_eq_getElem?_getD]
  by_cases hi : i < w.length
  · rw [List.getElem?_eq_getElem hi]; exact h _ (List.getElem_mem hi)
  · rw [List.getElem?_eq_none (by omega)]; show 0 < _; omega
theorem be8_len {n : Nat} : (be8 n).length = 8 := by unfold be8; rw [List.length_map, List.length_range]
theorem padB_len {xs : List Int} : (padB xs).length % 64 = 0 := by
  unfold padB
  rw [List.length_append, List.length_append, List.length_append, List.length_replicate, be8_len]
  show (xs.length + 1 + padZ xs.length + 8) % 64 = 0
  unfold padZ
  omega
theorem word_or {a b c d : Nat} (ha : a < 256) (hb : b < 256) (hc : c < 256) (hd : d < 256) : ((a * 2 ^ 24 % 4294967296 ||| b * 2 ^ 16 % 4294967296) ||| c * 2 ^ 8 % 4294967296) ||| d = 16777216 * a + 65536 * b + 256 * c + d := by
  have h1 : ∀ {x k : Nat}, x < 2 ^ (32 - k) → k ≤ 32 → x * 2 ^ k % 4294967296 = 2 ^ k * x := by
    intro x k hx hk
    rw [Nat.mul_comm]
    refine Nat.mod_eq_of_lt ?_
    have : 2 ^ k * x < 2 ^ k * 2 ^ (32 - k) := Nat.mul_lt_mul_of_pos_left hx (Nat.two_pow_pos k)
    rwa [← Nat.pow_add, show k + (32 - k) = 32 from Nat.add_sub_cancel' hk] at this
  rw [h1 (k := 24) (Nat.lt_of_lt_of_le ha (by decide)) (by decide), h1 (k := 16) (Nat.lt_of_lt_of_le hb (by decide)) (by decide), h1 (k := 8) (Nat.lt_of_lt_of_le hc (by decide)) (by decide)]
  rw [← Nat.two_pow_add_eq_or_of_lt (i := 24) (show 2 ^ 16 * b < 2 ^ 24 from Nat.lt_of_lt_of_le (Nat.mul_lt_mul_of_pos_left hb (by decide)) (by decide))]
  have e4 : 2 ^ 24 * a + 2 ^ 16 * b = 2 ^ 16 * (2 ^ 8 * a + b) := by rw [Nat.mul_add, ← Nat.mul_assoc]
  rw [e4, ← Nat.two_pow_add_eq_or_of_lt (i := 16) (show 2 ^ 8 * c < 2 ^ 16 from Nat.lt_of_lt_of_le (Nat.mul_lt_mul_of_pos_left hc (by decide)) (by decide))]
  have e5 : 2 ^ 16 * (2 ^ 8 * a + b) + 2 ^ 8 * c = 2 ^ 8 * (2 ^ 8 * (2 ^ 8 * a + b) + c) := by rw [Nat.mul_add (2 ^ 8) _ c, ← Nat.mul_assoc (2 ^ 8) (2 ^ 8)]
  rw [e5, ← Nat.two_pow_add_eq_or_of_lt (i := 8) (Nat.lt_of_lt_of_le hd (by decide))]
end J
set_option linter.unusedVariables false
set_option linter.unusedSimpArgs false
set_option maxRecDepth 100000
namespace J
open Go Go.Ab
variable [lp : LpC]
variable {H : Heap} {Γ Γ0 Γ2 Δ G : List (Nat × Blk)} {K : Value → Heap → Prop} {v w x : Value} {xs ys bs b : List Int} {j p : Nat} {e : Int}
abbrev u32 (n : Nat) : Value := uint .u32 n
theorem outp' {p o lo hi : Nat} (h : p < lo) : cOut (idsOf [ptr p o]) lo hi := by
  show outside [p] lo hi = true
  simp [outside, allN_eq, blt_eq, h]
theorem wrap_u64 {n : Int} (h : -9223372036854775808 ≤ n) (hn : n < 0) : wrapA .u64 n = ((18446744073709551616 - n.natAbs : Nat) : Int) := by
  obtain ⟨m, rfl⟩ : ∃ m : Nat, n = Int.negSucc m := ⟨n.natAbs - 1, by omega⟩
  show ((18446744073709551616 - 1 - m % 18446744073709551616 : Nat) : Int) = _
  rw [Nat.mod_eq_of_lt (by omega)]
  congr 1
  show _ = 18446744073709551616 - (m + 1)
  omega
theorem rotate_spec {a n : Nat} (ha : a < 4294967296) (hn : 0 < n) (hn2 : n < 32) (hk : K (u32 (rr a n)) H) : wCall P n_math_bits_RotateLeft32 [u32 a, int (-(n : Int))] H K := by
  apply math_bits_RotateLeft32_ok; unfold math_bits_RotateLeft32
  refine opW_i (v := uint .u64 (18446744073709551616 - n)) (H' := H) (by
    show some (Value.int .u64 (wrapA .u64 (-(n : Int))), H) = _
    rw [wrap_u64 (by omega) (by omega), show (-(n : Int)).natAbs = n by omega]) ?_
  refine opP_i (v := uint .u64 (32 - n)) (by
    rw [show (Value.int .u64 31) = uint .u64 31 from rfl, bin_andU rfl (show 18446744073709551616 - n < szU .u64 from (show _ < 18446744073709551616 by omega)) (by decide)]
    congr 2
    have : (18446744073709551616 - n) &&& 31 = (18446744073709551616 - n) % 32 := Nat.and_two_pow_sub_one_eq_mod _ 5
    rw [this]
    congr 1
    omega) ?_
  refine opP_i (bin_shlU (k := .u32) rfl (show 32 - n ≤ 32 by omega)) ?_
  refine opP_i (v := uint .u64 n) (by
    rw [show (Value.int .u64 32) = uint .u64 32 from rfl, bin_subU rfl (by omega) (by decide)]
    congr 3
    omega) ?_
  refine opP_i (bin_shrU (k := .u32) rfl (show n ≤ 32 by omega)) ?_
  refine opP_i (bin_orU (k := .u32) rfl (show a * 2 ^ (32 - n) % szU .u32 < szU .u32 from Nat.mod_lt _ (by decide)) (show a / 2 ^ n < 4294967296 from Nat.lt_of_le_of_lt (Nat.div_le_self _ _) ha)) ?_
  rw [Nat.or_comm]
  exact hk
theorem turn_spec {a : Nat} {l : List Nat} {q c j : Nat} {wr : Bool} (ha : a < 4294967296) (hl : ∀ n ∈ l, 0 < n ∧ n < 32) (hn : l.length ≤ 1000) (hO : St H Γ) (hj : Γ[j]? = some (q, (⟨l.map fun (n : Nat) => int n, wr⟩ : Blk))) (hk : K (u32 (turnN a l)) H) :
    wCall P n_digest_turn [u32 a, sl q 0 l.length c] H K := by
  apply digest_turn_ok; unfold digest_turn
  refine opW_i lenSl_sl ?_
  refine digest_turn_L0_ind (fun k l' H' => H' = H ∧ ∃ y : Nat, y ≤ l.length ∧ k = l.length - y ∧ l' = [u32 a, .int .u32 0, u32 (turnN a (l.take y)), sl q 0 l.length c, int l.length, int y]) _ _ ?_ l.length _ _ ⟨rfl, 0, by omega, rfl, rfl⟩
  rintro k l' H' ⟨rfl, y, hy, rfl, rfl⟩
  unfold digest_turn_L0
  try simp only [nth_zero, nth_succ]
  refine opP_i bin_lss ?_
  refine wIf_dec (fun h => ?_) (fun h => ?_)
  · have hyl : y < l.length := by omega
    obtain ⟨h1, h2⟩ := hl _ (List.getElem_mem hyl)
    refine opP_i (idxSl_ok (by omega) (by omega)) ?_
    refine load_at hO j hj (v := int (l[y] : Nat)) (by simp [hyl]) ?_
    refine opP_i (v := int (-(l[y] : Int))) (by
      show some (Value.int .i64 (wrapA .i64 (0 - (l[y] : Int)))) = _
      rw [wrap_i (by omega) (by omega), show (0 : Int) - (l[y] : Int) = -(l[y] : Int) by omega]) ?_
    refine rotate_spec ha h1 h2 ?_
    refine opP_i (bin_xorU (k := .u32) rfl (turnN_lt ha) (rr_lt ha)) ?_
    repeat (first | refine oi ?_ | refine ow ?_ | refine wy ?_ | refine wn ?_ | refine wt ?_ | refine wf' ?_ | refine cy ?_ | refine cn ?_)
    refine ⟨_, by omega, (by first | rfl | trivial), y + 1, by omega, rfl, ?_⟩
    have e : turnN a (l.take (y + 1)) = turnN a (l.take y) ^^^ rr a l[y] := by
      unfold turnN
      rw [List.take_succ_eq_append_getElem hyl, List.foldl_append]; rfl
    rw [e]; rfl
  · have ey : y = l.length := by omega
    subst ey
    rw [List.take_of_length_le (Nat.le_refl _)]
    refine cond_yes rfl ?_
    exact hk
def w8C (x : W8) : List Value := x.l.map fun (n : Nat) => u32 n
theorem zcW8 : zc P 409 = List.replicate 8 (u32 0) := by kernel_rfl
theorem zcW64 : zc P 427 = List.replicate 64 (u32 0) := by kernel_rfl
theorem table_spec (hO : St H Γ) (hk : ∀ H' p, St H' (Γ ++ [(p, ⟨kTab.map fun (n : Nat) => u32 n, true⟩)]) → K (ptr p 0) H') : wCall P n_digest_table [] H K := by
  apply digest_table_ok; unfold digest_table
  refine opP_i (v := agg (kTab.map fun (n : Nat) => u32 n)) (by kernel_rfl) ?_
  exact new_at hO fun p H' => hk H' p
theorem bsI2 (a b : Int) (H : Heap) : (buildSliceC P 103 2).f [(0, .int .i64 a), (1, .int .i64 b)] H = some (sl H.next 0 2 3, H.push [int a, int b]) := by kernel_rfl
theorem bsI3 (a b c : Int) (H : Heap) : (buildSliceC P 103 3).f [(0, .int .i64 a), (1, .int .i64 b), (2, .int .i64 c)] H = some (sl H.next 0 3 3, H.push [int a, int b, int c]) := by kernel_rfl
def wC (w : List Nat) : List Value := (w.map fun (n : Nat) => u32 n) ++ List.replicate (64 - w.length) (u32 0)
theorem wC_len {w : List Nat} (h : w.length ≤ 64) : (wC w).length = 64 := by simp [wC]; omega
theorem wC_at {w : List Nat} {i : Nat} (h : i < w.length) : (wC w)[i]? = some (u32 (w.getD i 0)) := by
  unfold wC
  rw [List.getElem?_append_left (by simpa using h)]
  simp [h]
theorem wC_set {w : List Nat} {n : Nat} (h : w.length < 64) : (wC w).set w.length (u32 n) = wC (w ++ [n]) := by
  unfold wC
  rw [List.set_append_right _ _ (by simp)]
  simp
  obtain ⟨m, hm⟩ : ∃ m, 64 - w.length = m + 1 := ⟨63 - w.length, by omega⟩
  rw [hm, List.replicate_succ, show 63 - w.length = m by omega]
  rfl
theorem wC_simple {w : List Nat} : (wC w).all simpleB = true := by simp [wC, simpleB, simple0]
theorem by_at {K : Value → Heap → Prop} (hO : St H Γ) (h : RdB Γ v b) (hb : ∀ x ∈ b, 0 ≤ x ∧ x ≤ 255) {i : Int} {n : Nat} (hn : i = n) (hi : n < b.length) (hk : K (uint .u8 (b.getD n 0).toNat) H) : opP (idxSl 1 v (int i)) fun t => opW (loadOne t H) K := by
  obtain ⟨p, o, c, j, bl, rfl, h1, h2⟩ := h.at hi
  subst hn
  refine opP_i (idxSl_ok (by omega) (by omega)) ?_
  rw [Int.toNat_natCast, Nat.mul_one]
  refine load_at hO j h1 (v := .int .u8 b[n]) h2 ?_
  have e : b.getD n 0 = b[n] := by rw [List.getD_eq_getElem?_getD, List.getElem?_eq_getElem hi]; rfl
  rw [e] at hk
  have := hb _ (List.getElem_mem hi)
  have e2 : (Value.int .u8 b[n]) = uint .u8 (b[n]).toNat := uint_of this.1
  rw [e2]; exact hk
set_option maxHeartbeats 2000000 in
theorem spread_spec (hO : St H Γ) (hv : RdB Γ v b) (hb : ∀ x ∈ b, 0 ≤ x ∧ x ≤ 255) (hl : b.length = 64) (hk : ∀ H', St H' Γ → K (agg (wC (wUp b 64))) H') : wCall P n_digest_spread [v] H K := by
  apply digest_spread_ok; unfold digest_spread
  rw [zcW64]
  refine new_at hO ?_
  clear hO
  intro p2 H hO
  refine new_at hO ?_
  clear hO
  intro p3 H hO
  rw [List.append_assoc] at hO
  replace hO : St H (Γ ++ [(p2, ⟨List.replicate 64 (u32 0), true⟩), (p3, ⟨wC [], true⟩)]) := hO
  refine digest_spread_L0_ind (fun k l' H' => ∃ (y : Nat) (Δ : List (Nat × Blk)), y ≤ 64 ∧ k = 64 - y ∧ l' = [v, ptr p2 0, ptr p3 0, int y] ∧ St H' (Γ ++ ([(p2, ⟨List.replicate 64 (u32 0), true⟩), (p3, ⟨wC (wUp b y), true⟩)] ++ Δ))) _ _ ?_ 64 _ _ ⟨0, [], by omega, rfl, rfl, by rw [List.append_nil]; exact hO⟩
  clear hO
  rintro k l' H ⟨y, Δ, hy, rfl, rfl, hO⟩
  unfold digest_spread_L0
  try simp only [nth_zero, nth_succ]
  have hwl := wUp_len (b := b) y
  have i3 : ∀ {w : List Nat} {R R2 : List (Nat × Blk)}, ((Γ ++ ([(p2, (⟨List.replicate 64 (u32 0), true⟩ : Blk)), (p3, ⟨wC w, true⟩)] ++ R)) ++ R2)[Γ.length + 1]? = some (p3, ⟨wC w, true⟩) := at_l (at_r rfl)
  have i3' : ∀ {w : List Nat} {R : List (Nat × Blk)}, (Γ ++ ([(p2, (⟨List.replicate 64 (u32 0), true⟩ : Blk)), (p3, ⟨wC w, true⟩)] ++ R))[Γ.length + 1]? = some (p3, ⟨wC w, true⟩) := at_r rfl
  refine opP_i bin_lss ?_
  refine wIf_dec (fun h => ?_) (fun h => ?_)
  · have fin : ∀ {H' : Heap} {R : List (Nat × Blk)} {n : Nat}, n = wNext b (wUp b y) y → St H' ((Γ ++ ([(p2, (⟨List.replicate 64 (u32 0), true⟩ : Blk)), (p3, ⟨wC (wUp b y), true⟩)] ++ R)).set (Γ.length + 1) (p3, ⟨(wC (wUp b y)).set (0 + y * 1) (u32 n), true⟩)) → St H' (Γ ++ ([(p2, ⟨List.replicate 64 (u32 0), true⟩), (p3, ⟨wC (wUp b (y + 1)), true⟩)] ++ R)) := by
      intro H' R n hn h'
      have h2 := h'.set_r
      subst hn
      have e : (wC (wUp b y)).set (0 + y * 1) (u32 (wNext b (wUp b y) y)) = wC (wUp b (y + 1)) := by
        have := wC_set (w := wUp b y) (n := wNext b (wUp b y) y) (by omega)
        rw [hwl] at this
        rw [show 0 + y * 1 = y by omega]; exact this
      rw [e] at h2; exact h2
    refine opP_i bin_lss ?_
    refine wIf_dec (fun h16 => ?_) (fun h16 => ?_)
    · have g0 := by_getD hb (4 * y)
      have g1 := by_getD hb (4 * y + 1)
      have g2 := by_getD hb (4 * y + 2)
      have g3 := by_getD hb (4 * y + 3)
      have m4 : (binC P .mul 3 true).f (.int .i64 4) (int y) = some (int ((4 * y : Nat) : Int)) := by rw [bin_muli (by omega) (by omega), show (4 : Int) * (y : Int) = ((4 * y : Nat) : Int) by omega]
      refine opP_i m4 ?_
      refine by_at hO hv.app hb rfl (by omega) ?_
      refine opW_i (cvU (k' := .u32) rfl) ?_
      rw [show ∀ n, n < 256 → n % szU .u32 = n from fun n hn => Nat.mod_eq_of_lt (show n < 4294967296 by omega)] <;> try exact g0
      refine opP_i (bin_shlU (k := .u32) (n := 24) rfl (by decide)) ?_
      refine opP_i m4 ?_
      refine opP_i (bin_addi (by omega) (by omega)) ?_
      refine by_at hO hv.app hb (n := 4 * y + 1) (by omega) (by omega) ?_
      refine opW_i (cvU (k' := .u32) rfl) ?_
      rw [Nat.mod_eq_of_lt (show (b.getD (4 * y + 1) 0).toNat < szU .u32 from (show _ < 4294967296 by omega))]
      refine opP_i (bin_shlU (k := .u32) (n := 16) rfl (by decide)) ?_
      refine opP_i (bin_orU (k := .u32) rfl (Nat.mod_lt _ (by decide)) (Nat.mod_lt _ (by decide))) ?_
      refine opP_i m4 ?_
      refine opP_i (bin_addi (by omega) (by omega)) ?_
      refine by_at hO hv.app hb (n := 4 * y + 2) (by omega) (by omega) ?_
      refine opW_i (cvU (k' := .u32) rfl) ?_
      rw [Nat.mod_eq_of_lt (show (b.getD (4 * y + 2) 0).toNat < szU .u32 from (show _ < 4294967296 by omega))]
      refine opP_i (bin_shlU (k := .u32) (n := 8) rfl (by decide)) ?_
      refine opP_i (bin_orU (k := .u32) rfl (Nat.or_lt_two_pow (n := 32) (Nat.mod_lt _ (by decide)) (Nat.mod_lt _ (by decide))) (Nat.mod_lt _ (by decide))) ?_
      refine opP_i m4 ?_
      refine opP_i (bin_addi (by omega) (by omega)) ?_
      refine by_at hO hv.app hb (n := 4 * y + 3) (by omega) (by omega) ?_
      refine opW_i (cvU (k' := .u32) rfl) ?_
      rw [Nat.mod_eq_of_lt (show (b.getD (4 * y + 3) 0).toNat < szU .u32 from (show _ < 4294967296 by omega))]
      refine opP_i (bin_orU (k := .u32) rfl (Nat.or_lt_two_pow (n := 32) (Nat.or_lt_two_pow (n := 32) (Nat.mod_lt _ (by decide)) (Nat.mod_lt _ (by decide))) (Nat.mod_lt _ (by decide))) (show _ < 4294967296 by omega)) ?_
      refine opP_i (idxPtr_ok (by omega) (by omega)) ?_
      rw [Int.toNat_natCast]
      refine store1_at hO (Γ.length + 1) i3' rfl (by rw [wC_len (by omega)]; omega) rfl ?_
      clear hO
      intro H hO
      replace hO := fin (R := Δ) (by
        unfold wNext wWord
        rw [if_pos (by omega)]
        exact word_or g0 g1 g2 g3) hO
      repeat (first | refine oi ?_ | refine ow ?_ | refine wy ?_ | refine wn ?_ | refine wt ?_ | refine wf' ?_ | refine cy ?_ | refine cn ?_)
      exact ⟨_, by omega, y + 1, Δ, by omega, rfl, rfl, hO⟩
    · have hlt : ∀ i, (wUp b y).getD i 0 < 4294967296 := getD_lt (wUp_lt hb y)
      have hp3 : p3 < H.next := hO.lt (p3, ⟨wC (wUp b y), true⟩) (List.mem_of_getElem? i3')
      have sm : ∀ {H1 : Heap} {R : List (Nat × Blk)} {o : Nat}, St H1 ((Γ ++ ([(p2, (⟨List.replicate 64 (u32 0), true⟩ : Blk)), (p3, ⟨wC (wUp b y), true⟩)] ++ Δ)) ++ R) → cSame (sameB H1 H1) (idsOf [ptr p3 o]) := fun h1 => same_at h1 (Γ.length + 1) i3 h1 (Γ.length + 1) i3 wC_simple
      refine opP_i (bin_subi (by omega) (by omega)) ?_
      refine opP_i (idxPtr_ok (by omega) (by omega)) ?_
      rw [show ((y : Int) - 15).toNat = y - 15 by omega]
      refine load_at hO (Γ.length + 1) i3' (v := u32 ((wUp b y).getD (y - 15) 0)) (by rw [show 0 + (y - 15) * 1 = y - 15 by omega]; exact wC_at (by omega)) ?_
      refine opP_i (bin_subi (by omega) (by omega)) ?_
      refine opP_i (idxPtr_ok (by omega) (by omega)) ?_
      rw [show ((y : Int) - 2).toNat = y - 2 by omega]
      refine load_at hO (Γ.length + 1) i3' (v := u32 ((wUp b y).getD (y - 2) 0)) (by rw [show 0 + (y - 2) * 1 = y - 2 by omega]; exact wC_at (by omega)) ?_
      refine opP_i (bin_subi (by omega) (by omega)) ?_
      refine opP_i (idxPtr_ok (by omega) (by omega)) ?_
      rw [show ((y : Int) - 16).toNat = y - 16 by omega]
      refine load_at hO (Γ.length + 1) i3' (v := u32 ((wUp b y).getD (y - 16) 0)) (by rw [show 0 + (y - 16) * 1 = y - 16 by omega]; exact wC_at (by omega)) ?_
      refine newSl_at hO (bsI2 _ _ _) ?_
      clear hO
      intro q H hO
      refine turn_spec (l := [7, 18]) (hlt _) (by intro n hn; simp at hn; omega) (by simp) hO (j := _ + 0) (at_r rfl) ?_
      refine ⟨sm hO, ?_⟩
      refine opP_i (bin_shrU (k := .u32) (n := 3) rfl (by decide)) ?_
      refine opP_i (bin_xorU (k := .u32) rfl (turnN_lt (hlt _)) (Nat.lt_of_le_of_lt (Nat.div_le_self _ _) (hlt _))) ?_
      refine opP_i (bin_addU (k := .u32) rfl) ?_
      refine opP_i (bin_subi (by omega) (by omega)) ?_
      refine opP_i (idxPtr_ok (by omega) (by omega)) ?_
      rw [show ((y : Int) - 7).toNat = y - 7 by omega]
      refine load_at hO (Γ.length + 1) i3 (v := u32 ((wUp b y).getD (y - 7) 0)) (by rw [show 0 + (y - 7) * 1 = y - 7 by omega]; exact wC_at (by omega)) ?_
      refine ⟨sm hO, outp' hp3, ?_⟩
      refine opP_i (bin_addU (k := .u32) rfl) ?_
      refine newSl_at hO (bsI2 _ _ _) ?_
      clear hO
      intro q2 H hO
      refine turn_spec (l := [17, 19]) (hlt _) (by intro n hn; simp at hn; omega) (by simp) hO (j := _ + 0) (at_r rfl) ?_
      rw [List.append_assoc (Γ ++ _)] at hO
      refine ⟨sm hO, sm hO, ?_⟩
      refine opP_i (bin_shrU (k := .u32) (n := 10) rfl (by decide)) ?_
      refine opP_i (bin_xorU (k := .u32) rfl (turnN_lt (hlt _)) (Nat.lt_of_le_of_lt (Nat.div_le_self _ _) (hlt _))) ?_
      refine opP_i (bin_addU (k := .u32) rfl) ?_
      refine opP_i (idxPtr_ok (by omega) (by omega)) ?_
      rw [Int.toNat_natCast]
      rw [List.append_assoc Γ, List.append_assoc [_, _]] at hO
      refine store1_at hO (Γ.length + 1) i3' rfl (by rw [wC_len (by omega)]; omega) rfl ?_
      clear hO
      intro H hO
      replace hO := fin (R := _) (by
        unfold wNext
        rw [if_neg (by omega)]
        generalize turnN ((wUp b y).getD (y - 15) 0) [7, 18] ^^^ (wUp b y).getD (y - 15) 0 / 2 ^ 3 = X
        generalize turnN ((wUp b y).getD (y - 2) 0) [17, 19] ^^^ (wUp b y).getD (y - 2) 0 / 2 ^ 10 = Y
        have e32 : szU .u32 = 4294967296 := rfl
        rw [e32]
        omega) hO
      repeat (first | refine oi ?_ | refine ow ?_ | refine wy ?_ | refine wn ?_ | refine wt ?_ | refine wf' ?_ | refine cy ?_ | refine cn ?_)
      exact ⟨_, by omega, y + 1, _, by omega, rfl, rfl, hO⟩
  · have ey : y = 64 := by omega
    subst ey
    refine cond_yes rfl ?_
    try simp only [nth_zero, nth_succ]
    refine loadAll_at hO (Γ.length + 1) i3' (wC_len (by omega)) (by omega) ?_
    refine storeAll_at hO (Γ.length + 0) (at_r rfl) (by simp) (wC_len (by omega)) (by simp [wC, oneCell]) ?_
    clear hO
    intro H hO
    replace hO := hO.set_r
    refine loadAll_at hO (Γ.length + 0) (at_r rfl) (wC_len (by omega)) (by omega) ?_
    exact hk _ hO.left
end J
set_option linter.unusedVariables false
set_option linter.unusedSimpArgs false
set_option maxRecDepth 100000
namespace J
open Go Go.Ab
variable [lp : LpC]
variable {H : Heap} {Γ Γ0 Γ2 Δ G : List (Nat × Blk)} {K : Value → Heap → Prop} {v w x : Value} {xs ys bs b : List Int} {j p : Nat} {e : Int}
theorem copy_in {o n c i q o2 n2 c2 : Nat} {cs : List Value} {K : Value → Heap → Prop} (hO : St H Γ) (hi : Γ[i]? = some (q, ⟨cs, true⟩)) (hn : n2 ≤ n) (hp : 0 < n2) (hl : o + n ≤ cs.length) (hl2 : o2 + n2 ≤ cs.length) (h1 : cs.all oneCell = true)
    (hk : ∀ H', St H' (Γ.set i (q, ⟨cs.take o ++ ((cs.drop o2).take n2 ++ cs.drop (o + n2)), true⟩)) → K (int n2) H') : opW (copyTo 1 (sl q o n c) (sl q o2 n2 c2) H) K := by
  have hlen : ((cs.drop o2).take n2).length = n2 := by rw [List.length_take, List.length_drop]; omega
  obtain ⟨H', hw, hs⟩ := write_at hO (o := o) (vs := (cs.drop o2).take n2) hi (by omega) (by
    rw [List.all_eq_true] at h1 ⊢
    exact fun x hx => h1 x (List.mem_of_mem_drop (List.mem_of_mem_take hx)))
  unfold copyTo
  simp only [show lenA (sl q o2 n2 c2) = some n2 from rfl]
  have hm : Nat.min n2 n = n2 := Nat.min_eq_left hn
  rw [hm]
  have hb : Nat.beq n2 0 = false := by
    cases hb : Nat.beq n2 0 with
    | false => rfl
    | true => have := Nat.eq_of_beq_eq_true hb; omega
  rw [hb]
  simp only [Bool.false_eq_true, if_false]
  have hg := hO.at i hi (.inl rfl)
  have he : elemsA H 1 n2 (sl q o2 n2 c2) = some ((cs.drop o2).take (n2 * 1)) := elems_sl hg (by show o2 + n2 * 1 ≤ cs.length; omega)
  rw [he, Nat.mul_one]
  simp only
  rw [hw]
  refine opW_i (show some (Value.int .i64 ((n2 : Nat) : Int), H') = _ from rfl) ?_
  rw [hlen] at hs
  exact hk _ hs
theorem w8C_simple (x : W8) : (w8C x).all simpleB = true := rfl
theorem w8C_one (x : W8) : (w8C x).all oneCell = true := rfl
theorem kT_simple : (kTab.map fun (n : Nat) => u32 n).all simpleB = true := by simp [simpleB, simple0]
theorem kT_at {i : Nat} (h : i < 64) : (kTab.map fun (n : Nat) => u32 n)[i]? = some (u32 (kTab.getD i 0)) := by
  have hl : kTab.length = 64 := rfl
  simp [hl, h]
theorem kT_lt (i : Nat) : kTab.getD i 0 < 4294967296 := getD_lt (by decide) i
theorem rnd_eq (x : W8) (k w : Nat) :
    ((((x.h + turnN x.e [6, 11, 25]) % 4294967296 + chF x.e x.f x.g) % 4294967296 + k) % 4294967296 + w) % 4294967296 = t1F x k w := by
  unfold t1F
  generalize turnN x.e [6, 11, 25] = A
  generalize chF x.e x.f x.g = B
  omega
set_option maxHeartbeats 8000000 in
theorem mix_L0 {p2 p4 p5 p16 p7 : Nat} {s : W8} {ws : List Nat} {Qx : Nat → List Value → Heap → Prop} {Qr : List Value → Heap → Prop} (hs : s.Ok) (hw : ∀ x ∈ ws, x < 4294967296) (hwl : ws.length = 64) {j5 j16 : Nat} (h5 : Γ[j5]? = some (p5, ⟨wC ws, true⟩)) (h16 : Γ[j16]? = some (p16, ⟨kTab.map fun (n : Nat) => u32 n, true⟩))
    (hO : St H (Γ ++ [(p7, ⟨w8C s, true⟩)])) (hk : ∀ H' Δ, St H' ((Γ ++ [(p7, ⟨w8C (rndN ws s 64), true⟩)]) ++ Δ) → Qx 0 [ptr p2 0, ptr p4 0, ptr p7 0] H') :
    wLoop P true 97 digest_words_mix_P0 148 [ptr p2 0, ptr p4 0, ptr p5 0, ptr p16 0, ptr p7 0, int 0] H Qx Qr := by
  refine digest_words_mix_L0_ind (fun k l' H' => ∃ (y : Nat) (Δ : List (Nat × Blk)), y ≤ 64 ∧ k = 64 - y ∧ l' = [ptr p2 0, ptr p4 0, ptr p5 0, ptr p16 0, ptr p7 0, int y] ∧ St H' ((Γ ++ [(p7, ⟨w8C (rndN ws s y), true⟩)]) ++ Δ)) _ _ ?_ 64 _ _ ⟨0, [], by omega, rfl, rfl, by rw [List.append_nil]; exact hO⟩
  clear hO
  rintro k l' H ⟨y, Δ, hy, rfl, rfl, hO⟩
  unfold digest_words_mix_L0
  try simp only [nth_zero, nth_succ]
  refine opP_i bin_lss ?_
  refine wIf_dec (fun h => ?_) (fun h => ?_)
  rotate_left
  · have ey : y = 64 := by omega
    subst ey
    exact hk _ _ hO
  have hxo := rndN_ok (w := ws) hs y
  have ew : ws.getD y 0 < 4294967296 := getD_lt hw y
  have er : rndN ws s (y + 1) = rndF (rndN ws s y) (kTab.getD y 0) (ws.getD y 0) := rfl
  generalize rndN ws s y = x at *
  have i7 : ∀ {R : List (Nat × Blk)}, (((Γ ++ [(p7, (⟨w8C x, true⟩ : Blk))]) ++ Δ) ++ R)[Γ.length + 0]? = some (p7, ⟨w8C x, true⟩) := at_l (at_l (at_r rfl))
  have i7' : ((Γ ++ [(p7, (⟨w8C x, true⟩ : Blk))]) ++ Δ)[Γ.length + 0]? = some (p7, ⟨w8C x, true⟩) := at_l (at_r rfl)
  have i5 : ∀ {R : List (Nat × Blk)}, (((Γ ++ [(p7, (⟨w8C x, true⟩ : Blk))]) ++ Δ) ++ R)[j5]? = some (p5, ⟨wC ws, true⟩) := at_l (at_l (at_l h5))
  have i16 : ∀ {R : List (Nat × Blk)}, (((Γ ++ [(p7, (⟨w8C x, true⟩ : Blk))]) ++ Δ) ++ R)[j16]? = some (p16, ⟨kTab.map fun (n : Nat) => u32 n, true⟩) := at_l (at_l (at_l h16))
  have lt7 : p7 < H.next := hO.lt _ (List.mem_of_getElem? i7')
  have lt5 : p5 < H.next := hO.lt _ (List.mem_of_getElem? (at_l (at_l h5)))
  have lt16 : p16 < H.next := hO.lt _ (List.mem_of_getElem? (at_l (at_l h16)))
  have sm7 : ∀ {H1 : Heap} {R : List (Nat × Blk)} {o : Nat}, St H1 (((Γ ++ [(p7, (⟨w8C x, true⟩ : Blk))]) ++ Δ) ++ R) → cSame (sameB H1 H1) (idsOf [ptr p7 o]) := fun h1 => same_at h1 _ i7 h1 _ i7 (w8C_simple x)
  have sm5 : ∀ {H1 : Heap} {R : List (Nat × Blk)} {o : Nat}, St H1 (((Γ ++ [(p7, (⟨w8C x, true⟩ : Blk))]) ++ Δ) ++ R) → cSame (sameB H1 H1) (idsOf [ptr p5 o]) := fun h1 => same_at h1 _ i5 h1 _ i5 wC_simple
  have sm16 : ∀ {H1 : Heap} {R : List (Nat × Blk)} {o : Nat}, St H1 (((Γ ++ [(p7, (⟨w8C x, true⟩ : Blk))]) ++ Δ) ++ R) → cSame (sameB H1 H1) (idsOf [ptr p16 o]) := fun h1 => same_at h1 _ i16 h1 _ i16 kT_simple
  have e32 : szU .u32 = 4294967296 := rfl
  refine opP_i (idxPtr_ok (by omega) (by omega)) ?_
  refine load_at hO _ i7' (v := u32 x.a) rfl ?_
  refine opP_i (idxPtr_ok (by omega) (by omega)) ?_
  refine load_at hO _ i7' (v := u32 x.e) rfl ?_
  refine opP_i (idxPtr_ok (by omega) (by omega)) ?_
  refine load_at hO _ i7' (v := u32 x.h) rfl ?_
  refine newSl_at hO (bsI3 _ _ _ _) ?_
  clear hO
  intro q H2 hO
  refine turn_spec (l := [6, 11, 25]) hxo.e (by intro n hn; simp at hn; omega) (by simp) hO (j := _ + 0) (at_r rfl) ?_
  refine ⟨sm7 hO, ?_⟩
  refine opP_i (bin_addU (k := .u32) rfl) ?_
  refine opP_i (idxPtr_ok (by omega) (by omega)) ?_
  refine load_at hO _ i7 (v := u32 x.f) rfl ?_
  refine ⟨sm7 hO, outp' lt7, ?_⟩
  refine opP_i (bin_andU (k := .u32) rfl hxo.e hxo.f) ?_
  refine opP_i (un_notU (k := .u32) rfl hxo.e) ?_
  refine opP_i (idxPtr_ok (by omega) (by omega)) ?_
  refine load_at hO _ i7 (v := u32 x.g) rfl ?_
  refine ⟨sm7 hO, outp' lt7, ?_⟩
  have hne : szU .u32 - 1 - x.e < szU .u32 := by rw [e32]; omega
  refine opP_i (bin_andU (k := .u32) rfl hne hxo.g) ?_
  refine opP_i (bin_xorU (k := .u32) rfl (Nat.and_lt_two_pow (n := 32) _ hxo.f) (Nat.and_lt_two_pow (n := 32) _ hxo.g)) ?_
  refine opP_i (bin_addU (k := .u32) rfl) ?_
  refine opP_i nilCheck_ptr ?_
  refine opP_i (idxPtr_ok (by omega) (by omega)) ?_
  rw [Int.toNat_natCast]
  refine load_at hO _ i16 (v := u32 (kTab.getD y 0)) (by rw [show 0 + y * 1 = y by omega]; exact kT_at (by omega)) ?_
  refine ⟨sm16 hO, outp' lt16, ?_⟩
  refine opP_i (bin_addU (k := .u32) rfl) ?_
  refine opP_i (idxPtr_ok (by omega) (by omega)) ?_
  rw [Int.toNat_natCast]
  refine load_at hO _ i5 (v := u32 (ws.getD y 0)) (by rw [show 0 + y * 1 = y by omega]; exact wC_at (by omega)) ?_
  refine ⟨sm5 hO, outp' lt5, ?_⟩
  refine opP_i (bin_addU (k := .u32) rfl) ?_
  have eone := rnd_eq x (kTab.getD y 0) (ws.getD y 0)
  rw [e32, show (x.e &&& x.f) ^^^ ((4294967296 - 1 - x.e) &&& x.g) = chF x.e x.f x.g from rfl, eone]
  have lt7b : p7 < H2.next := hO.lt _ (List.mem_of_getElem? i7)
  refine newSl_at hO (bsI3 _ _ _ _) ?_
  clear hO
  intro q2 H3 hO
  refine turn_spec (l := [2, 13, 22]) hxo.a (by intro n hn; simp at hn; omega) (by simp) hO (j := _ + 0) (at_r rfl) ?_
  rw [List.append_assoc (_ ++ Δ)] at hO
  refine opP_i (idxPtr_ok (by omega) (by omega)) ?_
  refine load_at hO _ i7 (v := u32 x.b) rfl ?_
  refine ⟨sm7 hO, outp' lt7b, ?_⟩
  refine opP_i (bin_andU (k := .u32) rfl hxo.a hxo.b) ?_
  refine opP_i (idxPtr_ok (by omega) (by omega)) ?_
  refine load_at hO _ i7 (v := u32 x.c) rfl ?_
  refine ⟨sm7 hO, outp' lt7b, ?_⟩
  refine opP_i (bin_andU (k := .u32) rfl hxo.a hxo.c) ?_
  refine opP_i (bin_xorU (k := .u32) rfl (Nat.and_lt_two_pow (n := 32) _ hxo.b) (Nat.and_lt_two_pow (n := 32) _ hxo.c)) ?_
  refine opP_i (idxPtr_ok (by omega) (by omega)) ?_
  refine load_at hO _ i7 (v := u32 x.b) rfl ?_
  refine ⟨sm7 hO, outp' lt7b, ?_⟩
  refine opP_i (idxPtr_ok (by omega) (by omega)) ?_
  refine load_at hO _ i7 (v := u32 x.c) rfl ?_
  refine ⟨sm7 hO, outp' lt7b, ?_⟩
  refine opP_i (bin_andU (k := .u32) rfl hxo.b hxo.c) ?_
  refine opP_i (bin_xorU (k := .u32) rfl (Nat.xor_lt_two_pow (n := 32) (Nat.and_lt_two_pow (n := 32) _ hxo.b) (Nat.and_lt_two_pow (n := 32) _ hxo.c)) (Nat.and_lt_two_pow (n := 32) _ hxo.c)) ?_
  refine opP_i (bin_addU (k := .u32) rfl) ?_
  rw [e32, show ((x.a &&& x.b) ^^^ (x.a &&& x.c)) ^^^ (x.b &&& x.c) = majF x.a x.b x.c from rfl, show (turnN x.a [2, 13, 22] + majF x.a x.b x.c) % 4294967296 = t2F x from rfl]
  have hg := hO.at _ i7 (.inl rfl)
  refine opP_i (show sliceArr 8 1 (ptr p7 0) (some (int 1)) none none H3 = some (sl p7 1 7 3) by unfold sliceArr; simp only [hg]; rfl) ?_
  refine opP_i (show sliceArr 8 1 (ptr p7 0) none (some (int 7)) none H3 = some (sl p7 0 7 2) by unfold sliceArr; simp only [hg]; rfl) ?_
  refine copy_in hO i7 (by omega) (by omega) (show 1 + 7 ≤ 8 by omega) (show 0 + 7 ≤ 8 by omega) (w8C_one x) ?_
  clear hO hg
  intro H4 hO
  have y7 : ∀ {c c' : List Value} {R : List (Nat × Blk)}, ((((Γ ++ [(p7, (⟨c, true⟩ : Blk))]) ++ Δ) ++ R).set (Γ.length + 0) (p7, ⟨c', true⟩)) = (((Γ ++ [(p7, (⟨c', true⟩ : Blk))]) ++ Δ) ++ R) := by
    intro c c' R
    rw [List.set_append_left _ _ (by simp), List.set_append_left _ _ (by simp), Go.Ab.set_r]; rfl
  have z7 : ∀ {c : List Value} {R : List (Nat × Blk)}, (((Γ ++ [(p7, (⟨c, true⟩ : Blk))]) ++ Δ) ++ R)[Γ.length + 0]? = some (p7, ⟨c, true⟩) := at_l (at_l (at_r rfl))
  rw [y7] at hO
  refine opP_i (idxPtr_ok (by omega) (by omega)) ?_
  refine load_at hO _ z7 (v := u32 x.d) rfl ?_
  refine opP_i (bin_addU (k := .u32) rfl) ?_
  refine opP_i (idxPtr_ok (by omega) (by omega)) ?_
  refine store1_at hO _ z7 rfl (show 4 < 8 by omega) (show _ = [u32 x.a, u32 x.a, u32 x.b, u32 x.c, u32 ((x.d + t1F x (kTab.getD y 0) (ws.getD y 0)) % 4294967296), u32 x.e, u32 x.f, u32 x.g] from rfl) ?_
  clear hO
  intro H5 hO
  rw [y7] at hO
  refine opP_i (bin_addU (k := .u32) rfl) ?_
  refine opP_i (idxPtr_ok (by omega) (by omega)) ?_
  refine store1_at hO _ z7 rfl (show 0 < 8 by omega) (show _ = w8C (rndF x (kTab.getD y 0) (ws.getD y 0)) from rfl) ?_
  clear hO
  intro H6 hO
  rw [y7] at hO
  repeat (first | refine oi ?_ | refine ow ?_ | refine wy ?_ | refine wn ?_ | refine wt ?_ | refine wf' ?_ | refine cy ?_ | refine cn ?_)
  rw [List.append_assoc (Γ ++ _), ← er] at hO
  exact ⟨64 - (y + 1), by omega, y + 1, _, by omega, rfl, rfl, hO⟩
end J
set_option linter.unusedVariables false
set_option linter.unusedSimpArgs false
set_option maxRecDepth 100000
namespace J
open Go Go.Ab
variable [lp : LpC]
variable {H : Heap} {Γ Γ0 Γ2 Δ G : List (Nat × Blk)} {K : Value → Heap → Prop} {v w x : Value} {xs ys bs b : List Int} {j p : Nat} {e : Int}
theorem set_nat {l : List Value} {i : Nat} {v : Value} (h : l[i]? = some v) : i < l.length := (List.getElem?_eq_some_iff.1 h).1
def addL (a b : List Nat) (y : Nat) : List Nat := (List.range a.length).map fun i => if i < y then (a.getD i 0 + b.getD i 0) % 4294967296 else a.getD i 0
theorem addL_len {a b : List Nat} {y : Nat} : (addL a b y).length = a.length := by unfold addL; rw [List.length_map, List.length_range]
theorem addL_at {a b : List Nat} {y i : Nat} (h : i < a.length) : (addL a b y)[i]? = some (if i < y then (a.getD i 0 + b.getD i 0) % 4294967296 else a.getD i 0) := by
  unfold addL
  rw [List.getElem?_map, List.getElem?_range h]; rfl
theorem addL_set {a b : List Nat} {y : Nat} (h : y < a.length) : (addL a b y).set y ((a.getD y 0 + b.getD y 0) % 4294967296) = addL a b (y + 1) := by
  apply List.ext_getElem?
  intro i
  rw [List.getElem?_set]
  by_cases hi : i < a.length
  · rw [addL_at hi, addL_at hi]
    by_cases he : y = i
    · subst he
      rw [if_pos rfl, if_pos (by rw [addL_len]; exact h), if_pos (Nat.lt_succ_self y)]
    · rw [if_neg he]
      by_cases hlt : i < y
      · rw [if_pos hlt, if_pos (by omega)]
      · rw [if_neg hlt, if_neg (by omega)]
  · rw [if_neg (by omega), List.getElem?_eq_none (by rw [addL_len]; omega), List.getElem?_eq_none (by rw [addL_len]; omega)]
theorem addL_8 {s R : W8} : addL s.l R.l 8 = (addW s R).l := rfl
theorem mix_L1 {s R : W8} {p2 p4 p7 : Nat} {T : List (Nat × Blk)} {Qx : Nat → List Value → Heap → Prop} {Qr : List Value → Heap → Prop} (i7 : T[2]? = some (p7, ⟨w8C R, true⟩))
    (hO : St H (Γ ++ ([(p2, ⟨w8C s, true⟩), (p4, ⟨List.replicate 8 (u32 0), true⟩)] ++ T)))
    (hk : ∀ H', St H' (Γ ++ ([(p2, ⟨w8C (addW s R), true⟩), (p4, ⟨List.replicate 8 (u32 0), true⟩)] ++ T)) → Qx 2 [ptr p2 0, ptr p4 0] H') :
    wLoop P true 97 digest_words_mix_P1 20 [ptr p2 0, ptr p4 0, ptr p7 0, int 0] H Qx Qr := by
  refine digest_words_mix_L1_ind (fun k l' H' => ∃ (y : Nat), y ≤ 8 ∧ k = 8 - y ∧ l' = [ptr p2 0, ptr p4 0, ptr p7 0, int y] ∧ St H' (Γ ++ ([(p2, ⟨(addL s.l R.l y).map fun (n : Nat) => u32 n, true⟩), (p4, ⟨List.replicate 8 (u32 0), true⟩)] ++ T))) _ _ ?_ 8 _ _ ⟨0, by omega, rfl, rfl, hO⟩
  clear hO
  rintro k l' H ⟨y, hy, rfl, rfl, hO⟩
  unfold digest_words_mix_L1
  try simp only [nth_zero, nth_succ]
  have hls : s.l.length = 8 := rfl
  have hlR : R.l.length = 8 := rfl
  refine opP_i bin_lss ?_
  refine wIf_dec (fun h => ?_) (fun h => ?_)
  · have hy8 : y < 8 := by omega
    have e32 : szU .u32 = 4294967296 := rfl
    have a1 : ((addL s.l R.l y).map fun (n : Nat) => u32 n)[0 + y * 1]? = some (u32 (s.l.getD y 0)) := by
      rw [show 0 + y * 1 = y by omega, List.getElem?_map, addL_at (by omega), if_neg (by omega)]; rfl
    have a2 : (w8C R)[0 + y * 1]? = some (u32 (R.l.getD y 0)) := by
      unfold w8C
      rw [show 0 + y * 1 = y by omega, List.getElem?_map, List.getElem?_eq_getElem (by omega), List.getD_eq_getElem?_getD, List.getElem?_eq_getElem (by omega)]; rfl
    have a3 : ((addL s.l R.l y).map fun (n : Nat) => u32 n).set (0 + y * 1) (u32 ((s.l.getD y 0 + R.l.getD y 0) % 4294967296)) = (addL s.l R.l (y + 1)).map fun (n : Nat) => u32 n := by
      rw [← addL_set (by omega), List.map_set, show 0 + y * 1 = y by omega]
    refine opP_i (idxPtr_ok (by omega) (by omega)) ?_
    rw [Int.toNat_natCast]
    refine load_at hO (Γ.length + 0) (at_r rfl) a1 ?_
    refine opP_i (idxPtr_ok (by omega) (by omega)) ?_
    rw [Int.toNat_natCast]
    refine load_at hO (Γ.length + (2 + 2)) (at_r (at_r (Γ := [_, _]) i7)) a2 ?_
    refine opP_i (bin_addU (k := .u32) rfl) ?_
    refine opP_i (idxPtr_ok (by omega) (by omega)) ?_
    rw [Int.toNat_natCast, e32]
    refine store1_at hO (Γ.length + 0) (at_r rfl) rfl (set_nat a1) a3 ?_
    clear hO
    intro H hO
    replace hO := hO.set_r
    repeat (first | refine oi ?_ | refine ow ?_ | refine wy ?_ | refine wn ?_ | refine wt ?_ | refine wf' ?_ | refine cy ?_ | refine cn ?_)
    exact ⟨_, by omega, y + 1, by omega, rfl, rfl, hO⟩
  · have ey : y = 8 := by omega
    subst ey
    rw [addL_8] at hO
    exact hk _ hO
set_option maxHeartbeats 4000000 in
theorem mix_spec {s : W8} (hs : s.Ok) (hO : St H Γ) (hv : RdB Γ v b) (hb : ∀ x ∈ b, 0 ≤ x ∧ x ≤ 255) (hl : b.length = 64) (hk : ∀ H', St H' Γ → K (agg (w8C (mixF s b))) H') : wCall P n_digest_words_mix [agg (w8C s), v] H K := by
  apply digest_words_mix_ok; unfold digest_words_mix
  refine new_at hO ?_
  clear hO
  intro p2 H hO
  rw [zcW8]
  refine new_at hO ?_
  clear hO
  intro p4 H hO
  rw [List.append_assoc] at hO
  replace hO : St H (Γ ++ [(p2, ⟨w8C s, true⟩), (p4, ⟨List.replicate 8 (u32 0), true⟩)]) := hO
  refine spread_spec hO hv.app hb hl ?_
  clear hO
  intro H hO
  refine table_spec hO ?_
  clear hO
  intro H p16 hO
  rw [zcW64]
  refine new_at hO ?_
  clear hO
  intro p5 H hO
  have hwl : (wUp b 64).length = 64 := wUp_len 64
  refine storeAll_at hO (_ + 0) (at_r rfl) (by simp) (wC_len (by omega)) (by simp [wC, oneCell]) ?_
  clear hO
  intro H hO
  replace hO := hO.set_r
  refine loadAll_at hO (Γ.length + 0) (at_l (at_l (at_r rfl))) rfl (by omega) ?_
  refine new_at hO ?_
  clear hO
  intro p7 H hO
  refine storeAll_at hO (_ + 0) (at_r rfl) (by simp) rfl (w8C_one s) ?_
  clear hO
  intro H hO
  replace hO := hO.set_r
  refine mix_L0 (ws := wUp b 64) hs (wUp_lt hb 64) hwl (at_r (k := 0) rfl) (at_l (at_r (k := 0) rfl)) hO ?_
  clear hO
  intro H Δ hO
  refine cond_yes rfl ?_
  try simp only [nth_zero, nth_succ]
  generalize hR : rndN (wUp b 64) s 64 = R at *
  have ho := rndN_ok (w := wUp b 64) hs 64
  have hm : mixF s b = addW s R := by unfold mixF; rw [hR]
  replace hO : St H (Γ ++ ([(p2, ⟨w8C s, true⟩), (p4, ⟨List.replicate 8 (u32 0), true⟩)] ++ ([(p16, ⟨kTab.map fun (n : Nat) => u32 n, true⟩)] ++ ([(p5, ⟨wC (wUp b 64), true⟩)] ++ ([(p7, ⟨w8C R, true⟩)] ++ Δ))))) := by
    have h2 := hO
    simp only [List.append_assoc] at h2
    exact h2
  obtain ⟨T, hT⟩ : ∃ T, T = ([(p16, (⟨kTab.map fun (n : Nat) => u32 n, true⟩ : Blk))] ++ ([(p5, ⟨wC (wUp b 64), true⟩)] ++ ([(p7, ⟨w8C R, true⟩)] ++ Δ))) := ⟨_, rfl⟩
  have i7 : T[2]? = some (p7, ⟨w8C R, true⟩) := by rw [hT]; rfl
  rw [← hT] at hO
  clear hT
  refine mix_L1 i7 hO ?_
  clear hO
  intro H hO
  rw [← hm] at hO
  refine cond_yes rfl ?_
  try simp only [nth_zero, nth_succ]
  refine loadAll_at hO (Γ.length + 0) (at_r rfl) rfl (by omega) ?_
  refine storeAll_at hO (Γ.length + 1) (at_r rfl) rfl rfl (w8C_one _) ?_
  clear hO
  intro H hO
  replace hO := hO.set_r
  refine loadAll_at hO (Γ.length + 1) (at_r rfl) rfl (by omega) ?_
  exact hk _ hO.left
end J
set_option linter.unusedVariables false
set_option linter.unusedSimpArgs false
set_option maxRecDepth 100000
namespace J
open Go Go.Ab
variable [lp : LpC]
variable {H : Heap} {Γ Γ0 Γ2 Δ G : List (Nat × Blk)} {K : Value → Heap → Prop} {v w x : Value} {xs ys zs bs b : List Int} {j p pd : Nat} {e : Int} {cs : List Value}
def OwnO (v : Value) (xs : List Int) (cs : List Value) : Prop :=
  (v = nilSl ∧ xs = [] ∧ cs = []) ∨ ∃ p o, (v = sl p o xs.length 2 ∨ v = sl p o xs.length 3) ∧ (cs.drop o).take xs.length = by8 xs ∧ o + xs.length ≤ cs.length ∧ cs.all simpleB = true
theorem OwnB.o (h : OwnB v xs cs) : OwnO v xs cs := by
  rcases h with h | ⟨p, h1, h2, h3, h4⟩
  · exact .inl h
  · refine .inr ⟨p, 0, ?_, by rw [List.drop_zero]; exact h2, by omega, h4⟩
    rcases h1 with h1 | ⟨h1, _⟩
    · exact .inl h1
    · exact .inr h1
theorem OwnO.rd (h : OwnO v xs cs) : RdB (outB v cs) v xs := by
  rcases h with ⟨rfl, rfl, _⟩ | ⟨p, o, h1 | h1, h2, h3, h4⟩
  · exact .nil
  · subst h1; exact .inr ⟨p, o, 2, rfl, .inl rfl, .inr ⟨0, ⟨cs, true⟩, rfl, h2⟩⟩
  · subst h1; exact .inr ⟨p, o, 3, rfl, .inr rfl, .inr ⟨0, ⟨cs, true⟩, rfl, h2⟩⟩
theorem by_app {a b : List Int} (ha : ∀ x ∈ a, 0 ≤ x ∧ x ≤ 255) (hb : ∀ x ∈ b, 0 ≤ x ∧ x ≤ 255) : ∀ x ∈ a ++ b, 0 ≤ x ∧ x ≤ 255 := fun x hx => by
  rcases List.mem_append.1 hx with hx | hx
  · exact ha x hx
  · exact hb x hx
end J
set_option linter.unusedVariables false
set_option linter.unusedSimpArgs false
set_option maxRecDepth 100000
namespace J
open Go Go.Ab
variable [lp : LpC]
variable {H : Heap} {Γ Γ0 Γ2 Δ G : List (Nat × Blk)} {K : Value → Heap → Prop} {v w x : Value} {xs ys zs bs b : List Int} {j p pd : Nat} {e : Int} {cs : List Value}
def outC (bs : List Int) : List Value := by8 bs ++ List.replicate (32 - bs.length) (uint .u8 0)
theorem outC_len {bs : List Int} (h : bs.length ≤ 32) : (outC bs).length = 32 := by simp [outC]; omega
theorem outC_set {bs : List Int} {x : Int} (h : bs.length < 32) : (outC bs).set bs.length (.int .u8 x) = outC (bs ++ [x]) := by
  unfold outC
  rw [List.set_append_right _ _ (by simp)]
  obtain ⟨m, hm⟩ : ∃ m, 32 - bs.length = m + 1 := ⟨31 - bs.length, by omega⟩
  rw [hm, List.length_append, show 32 - (bs.length + [x].length) = m by simp; omega, List.replicate_succ]
  simp [by8]
theorem hashB_len {s : W8} : (hashB s).length = 32 := rfl
theorem flat4 : ∀ (l : List Nat) (m i : Nat), m < l.length → i < 4 → (l.flatMap be4)[4 * m + i]? = (be4 (l.getD m 0))[i]?
  | [], _, _, h, _ => absurd h (Nat.not_lt_zero _)
  | a :: l, 0, i, _, hi => by
    rw [List.flatMap_cons, Nat.mul_zero, Nat.zero_add, List.getElem?_append_left (show i < (be4 a).length from hi)]; rfl
  | a :: l, m + 1, i, h, hi => by
    rw [List.flatMap_cons, List.getElem?_append_right (show (be4 a).length ≤ 4 * (m + 1) + i by show 4 ≤ _; omega), show 4 * (m + 1) + i - (be4 a).length = 4 * m + i by show _ - 4 = _; omega, flat4 l m i (by simpa using h) hi]; rfl
theorem be4_at {w i : Nat} (h : i < 4) : (be4 w)[i]? = some (((w / 2 ^ (24 - 8 * i) % 256 : Nat) : Int)) := by
  rcases i with _ | _ | _ | _ | i
  · rfl
  · rfl
  · rfl
  · show some ((w % 256 : Nat) : Int) = some (((w / 2 ^ 0 % 256 : Nat) : Int))
    rw [Nat.pow_zero, Nat.div_one]
  · omega
theorem hash_step {s : W8} {m i : Nat} (hm : m < 8) (hi : i < 4) : (hashB s).take (4 * m + i) ++ [((s.l.getD m 0 / 2 ^ (24 - 8 * i) % 256 : Nat) : Int)] = (hashB s).take (4 * m + i + 1) := by
  have h1 := flat4 s.l m i (show m < 8 from hm) hi
  rw [be4_at hi] at h1
  rw [List.take_add_one, show (hashB s)[4 * m + i]? = _ from h1]; rfl
theorem be8_at {n i : Nat} (h : i < 8) : (be8 n)[i]? = some (((n / 2 ^ (56 - 8 * i) % 256 : Nat) : Int)) := by
  unfold be8
  rw [List.getElem?_map, List.getElem?_range h]; rfl
theorem be8_by {n : Nat} : ∀ x ∈ be8 n, 0 ≤ x ∧ x ≤ 255 := by
  intro x hx
  obtain ⟨i, _, rfl⟩ := List.mem_map.1 hx
  have := Nat.mod_lt (n / 2 ^ (56 - 8 * i)) (show 256 > 0 by decide)
  omega
theorem u8_by {x : Int} (h : 0 ≤ x ∧ x ≤ 255) : ∀ y ∈ [x], 0 ≤ y ∧ y ≤ 255 := fun y hy => by rw [List.mem_singleton.1 hy]; exact h
theorem rep_by {n : Nat} : ∀ y ∈ List.replicate n (0 : Int), 0 ≤ y ∧ y ≤ 255 := fun y hy => by rw [(List.mem_replicate.1 hy).2]; decide
theorem bsB1 (x : Int) (H : Heap) : (buildSliceC P 28 1).f [(0, .int .u8 x)] H = some (sl H.next 0 1 3, H.push [.int .u8 x]) := by kernel_rfl
theorem zcB32 : zc P 33 = List.replicate 32 (uint .u8 0) := by kernel_rfl
end J
set_option linter.unusedVariables false
set_option linter.unusedSimpArgs false
set_option maxRecDepth 100000
namespace J
open Go Go.Ab
variable [lp : LpC]
variable {H : Heap} {Γ Γ0 Γ2 Δ G : List (Nat × Blk)} {K : Value → Heap → Prop} {v w x : Value} {xs ys zs bs b : List Int} {j p pd pz : Nat} {e : Int} {cs : List Value} {L : Mloc} {m : Mp} {part pos : Int}
def Mp.upto (m : Mp) (part : Int) (n : Nat) : List Int := (List.range n).flatMap fun (i : Nat) => (m.read part i).1
def Mp.all (m : Mp) (part : Int) : List Int := m.upto part (m.size part)
end J
