/- texts of the proof, one behind the other -/
import Derived.Test.YtccblhllmplmaaaGreatProg
import Derived.KernelRfl
import Derived.Test.YtccblhllmplmaaaGreatAbC
set_option linter.unusedSimpArgs false
set_option linter.unusedSectionVars false
set_option linter.unusedVariables false
set_option maxRecDepth 100000
namespace C
open Go Go.Ab
noncomputable abbrev P:Program:=Go.Proofs.Tryz.prog
noncomputable section
abbrev zid:Nat:=4
abbrev znc:Nat:=135
instance (priority:=10):Orc:=zsM
noncomputable abbrev zPg:Code:=zMa P znc 0
def zQg(l:List Value)(H:Heap)(N:LN)(Qx:LX)(Qr:LN):Prop:=
opP ((zta P .lss 3 true).f (nth l 2) (.int .i64 8)) fun t4=>
wIf t4 (
opP ((zta P .shr 212 true).f (nth l 0) (.int .u64 1)) fun t6=>
opP ((zta P .and 212 true).f (nth l 0) (.int .u32 1)) fun t8=>
opP (unA .neg t8) fun t9=>
opP ((zta P .and 212 true).f (.int .u32 3988292384) t9) fun t10=>
opP ((zta P .xor 212 false).f t6 t10) fun t11=>
opP ((zta P .add 3 true).f (nth l 2) (.int .i64 1)) fun t12=>
N [t11,(nth l 1),t12] H) (
Qx 0 [(nth l 0),(nth l 1)] H)
theorem zRg:LpI P 14 zPg 5 zQg:=.mk (by kernel_rfl) fun l H N Qx Qr=>by kernel_rfl
def zbn(t0:Value)(H:Heap)(K:VH):Prop:=
zbb P true 14 zPg 5 [t0,(.int .u32 0),(.int .i64 0)] H (fun id l H1=>
cond (Nat.beq id 0) (
K (nth l 0) H1) (
False)) (fun l H1=>
K (nth l 1) H1)
theorem zkm{t0:Value}{H:Heap}{K:VH}(h:zbn t0 H K):wCall P znc [t0] H K:=zea rfl (Eq.mpr (by kernel_rfl) h)
end
end C
set_option maxRecDepth 100000
namespace C
open Go Go.Ab
variable{H:Heap}{K:VH}
noncomputable def zAG(r:Nat):Nat:=Nat.xor (r / 2) (Nat.land 3988292384 ((4294967296 - Nat.land r 1) % 4294967296))
noncomputable def zRu(i r:Nat):Nat:=Nat.rec (motive:=fun _=>Nat) r (fun _ x=>zAG x) i
theorem zwA{r:Nat}(h:r < 4294967296):zAG r < 4294967296:=
 Nat.xor_lt_two_pow (n:=32) (by omega) (Nat.and_lt_two_pow (n:=32) _ (Nat.mod_lt _ (by omega)))
theorem zlm{r:Nat}(h:r < 4294967296):∀ i,zRu i r < 4294967296
 | 0=>h
 | i+1=>zwA (zlm h i)
theorem zCi{r:Nat}(hr:r < 4294967296)(hk:K (zgb .u32 (zRu 8 r)) H):wCall P znc [zgb .u32 r] H K:=by
 apply zkm; unfold zbn
 refine zRg (fun k l' H'=>∃ y:Nat,y≤8∧k=8 - y∧l'=[zgb .u32 (zRu y r),.int .u32 0,int y]∧H'=H) _ _ ?_ 8 _ _ ⟨0,by omega,rfl,rfl,rfl⟩
 rintro k l' H' ⟨y,hy,rfl,rfl,rfl⟩
 unfold zQg
 try simp only[zja,zka]
 have hb:=zlm hr y
 repeat (first|refine oi ?_|refine ow ?_|refine wy ?_|refine wn ?_|refine wt ?_|refine wf' ?_|refine cy ?_|refine cn ?_)
 refine zia (fun h=>?_) (fun h=>?_)
 ·have h1:zRu y r &&& 1 < 4294967296:=Nat.and_lt_two_pow (n:=32) _ (by omega)
  refine zaa (zqr (n:=1) rfl (by decide)) ?_
  refine zaa (zpr (b:=1) rfl hb (by decide)) ?_
  refine zaa (zaF rfl h1) ?_
  refine zaa (zpr (a:=3988292384) rfl (by decide) (Nat.mod_lt _ (by decide))) ?_
  refine zaa (zlw rfl (show zRu y r / 2 < 4294967296 by omega) (Nat.and_lt_two_pow (n:=32) _ (Nat.mod_lt _ (by decide)))) ?_
  repeat (first|refine oi ?_|refine ow ?_|refine wy ?_|refine wn ?_|refine wt ?_|refine wf' ?_|refine cy ?_|refine cn ?_)
  exact⟨_,by omega,y+1,by omega,rfl,rfl,trivial⟩
 ·have e:y=8:=by omega
  subst e
  repeat (first|refine oi ?_|refine ow ?_|refine wy ?_|refine wn ?_|refine wt ?_|refine wf' ?_|refine cy ?_|refine cn ?_)
  exact hk
noncomputable def zzK(args:List Value):Option Value:=match args with
 | [v]=>match v with
  | .int k n=>match k with
   | .u32=>match n with
    | .ofNat r=>cond (Nat.blt r 4294967296) (some (.int .u32 (Int.ofNat (zRu 8 r)))) none
    | _=>none
   | _=>none
  | _=>none
 | _=>none
theorem zjF{args:List Value}{v:Value}(h:zzK args=some v):∃ r:Nat,r < 4294967296∧args=[zgb .u32 r]∧v=zgb .u32 (zRu 8 r):=by
 unfold zzK at h
 split at h
 case h_2=>cases h
 case h_1 x=>
 split at h
 case h_2=>cases h
 case h_1 k n=>
 split at h
 case h_2=>cases h
 case h_1=>
 split at h
 case h_2=>cases h
 case h_1 r=>
 cases hb:Nat.blt r 4294967296 with
 | false=>rw[hb] at h; cases h
 | true=>
  rw[hb] at h
  cases h
  rw[blt_eq] at hb
  exact⟨r,of_decide_eq_true hb,rfl,rfl⟩
theorem zGJ(hP:goodB P=true)(args:List Value)(v:Value)(h:zzK args=some v)(H:Heap):zMg P znc args H v:=by
 obtain⟨r,hr,rfl,rfl⟩:=zjF h
 obtain⟨n,ex,v',H',hrun,hv⟩:=zCi (H:=Ab.start P.globals.size) (K:=fun v _=>v=zgb .u32 (zRu 8 r)) hr rfl
 subst hv
 exact @zVv P zsM hP zoJ _ _ _ _ _ _ hrun rfl rfl H
end C
set_option maxRecDepth 100000
namespace C
open Go Go.Ab
theorem good:goodB P=true:=by kernel_rfl
def zdy:Value:=.agg #[.int .u8 255,.int .u8 255,.int .u8 255,.int .u8 255,.int .u8 255,.int .u8 255,.int .u8 255,.int .u8 255,.int .u8 255,.int .u8 255,.int .u8 255,.int .u8 255,.int .u8 255,.int .u8 255,.int .u8 255,.int .u8 255,.int .u8 255,.int .u8 255,.int .u8 255,.int .u8 255,.int .u8 255,.int .u8 255,.int .u8 255,.int .u8 255,.int .u8 255,.int .u8 255,.int .u8 255,.int .u8 255,.int .u8 255,.int .u8 255,.int .u8 255,.int .u8 255,.int .u8 255,.int .u8 255,.int .u8 255,.int .u8 255,.int .u8 255,.int .u8 255,.int .u8 255,.int .u8 255,.int .u8 255,.int .u8 255,.int .u8 255,.int .u8 255,.int .u8 255,.int .u8 255,.int .u8 255,.int .u8 255,.int .u8 255,.int .u8 255,.int .u8 255,.int .u8 255,.int .u8 255,.int .u8 255,.int .u8 255,.int .u8 255,.int .u8 255,.int .u8 255,.int .u8 255,.int .u8 255,.int .u8 255,.int .u8 255,.int .u8 255,.int .u8 255]
set_option maxRecDepth 100000 in
theorem zAK:zuM (@zZf (ztM []) P 1000000 (.call 48 [] (Ab.start P.globals.size)))=some zdy:=by kernel_rfl
theorem zlN:AllGood P [(48,zdy)]:=AllGood.cons (@zpJ P (ztM []) good (zBE AllGood.nil) _ _ _ zAK rfl) AllGood.nil
theorem zmN:@OrcOk (zdM [(48,zdy)] znc zzK) P:=zqJ zlN (zGJ good)
set_option maxRecDepth 100000 in
theorem znN:zjA (@zZf (zdM [(48,zdy)] znc zzK) P 1000000 (.call 4 [] (Ab.start P.globals.size)))=true:=by kernel_rfl
theorem alive(H:Heap):zMg P 4 [] H (.bool true):=@zaD P (zdM [(48,zdy)] znc zzK) good zmN _ _ znN H
end C
