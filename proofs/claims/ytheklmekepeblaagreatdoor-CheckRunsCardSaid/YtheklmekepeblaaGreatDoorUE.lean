/- texts of the proof, one behind the other -/
import Derived.Lib.RuneCountTail
import Derived.Test.YtheklmekepeblaaGreatDoorUD
set_option linter.unusedVariables false
set_option linter.unusedSimpArgs false
set_option linter.unusedSectionVars false
set_option maxRecDepth 100000
namespace J
open Go Go.Ab
variable{H:Heap}{Γ Γ0 Γ2 Δ G L:List (Nat × Blk)}{K:VH}{v w x:Value}{xs ys zs bs b key ms:List Int}{j p q o n k:Nat}{e:Int}{cs cs':List Value}{l m:List UInt8}
abbrev str(l:List UInt8):Value:=.string ⟨l.toArray⟩
theorem zft:zUt (str l) H=some (int l.length,H):=by
 show some (Value.int .i64 (Int.ofNat (zmf l)),H)=_
 rw[zLa]; rfl
theorem zOB{k:IntKind}{i:Int}(h0:0≤i)(h1:i < l.length):zxt (str l) (.int k i)=some (zsb .u8 (l.getD i.toNat 0).toNat):=by
 show (match leB 0 i with|true=>(atN l i.toNat).map zRg|false=>none)=_
 rw[zRc,decide_eq_true h0]
 simp only[zJi]
 rw[List.getD_eq_getElem?_getD,List.getElem?_eq_getElem (by omega)]
 rfl
theorem bHi{len n:Nat}(h:n≤len):zCc len (some (int (n:Int)))=some n:=by
 show (match leB 0 (n:Int) with|true=>(match Nat.ble (n:Int).toNat len with|true=>some (n:Int).toNat|false=>none)|false=>none)=_
 rw[zRc,decide_eq_true (by omega)]
 simp only[Int.toNat_natCast]
 rw[Nat.ble_eq_true_of_le h]
theorem zPB{n:Nat}(h:n≤l.length):zvg (str l) none (some (int n)) none=some (str (l.take n)):=by
 show (match zCc (zmf l) (some (int n)) with|some h=>(match zjd h none with|some i=>some (Value.string ⟨(takeN (zSj l i) (h - i)).toArray⟩)|none=>none)|none=>none)=_
 rw[bHi (by rw[zLa]; exact h)]
 simp[zjd,zAb,zKb]
theorem zsE{n:Nat}(h:n≤l.length):zvg (str l) (some (int n)) none none=some (str (l.drop n)):=by
 show (match zCc (zmf l) none with|some h=>(match zjd h (some (int n)) with|some i=>some (Value.string ⟨(takeN (zSj l i) (h - i)).toArray⟩)|none=>none)|none=>none)=_
 rw[zLa]
 simp only[zCc]
 rw[zxo h]
 simp only[zAb,zKb]
 rw[List.take_of_length_le (by simp)]
theorem zWG(t:TypeId)(c:Bool):(zpa P .eql t c).f (str l) (str m)=some (.bool (l == m)):=rfl
theorem zXG(t:TypeId)(c:Bool):(zpa P .neq t c).f (str l) (str m)=some (.bool (!(l == m))):=rfl
def cb(l:List UInt8)(i:Nat):Nat:=(l.getD i 0).toNat
theorem zBi(l:List UInt8)(i:Nat):cb l i < 256:=(l.getD i 0).toNat_lt
def isC(c:Nat):Prop:=128≤c∧c≤191
instance (c:Nat):Decidable (isC c):=by unfold isC; exact inferInstance
def nP(l:List UInt8)(n0:Nat):Nat→Nat
 | 0=>n0
 | y+1=>64 * nP l n0 y+cb l (y+1) - 128
def zbz(l:List UInt8):Nat→Bool
 | 0=>true
 | y+1=>zbz l y && decide (isC (cb l (y+1)))
def zzv(l:List UInt8)(size n0 least:Nat):Option (Nat × Nat):=
 if l.length < size then none else if zbz l (size - 1)=true then
  (if nP l n0 (size - 1) < least∨nP l n0 (size - 1) > 1114111∨(55296≤nP l n0 (size - 1)∧nP l n0 (size - 1)≤57343) then none else some (nP l n0 (size - 1),size))
 else none
def o4(l:List UInt8):Option (Nat × Nat):=
 if cb l 0 < 128 then some (cb l 0,1)
 else if 194≤cb l 0∧cb l 0 < 224 then zzv l 2 (cb l 0 - 192) 128
 else if 224≤cb l 0∧cb l 0 < 240 then zzv l 3 (cb l 0 - 224) 2048
 else if 240≤cb l 0∧cb l 0 < 245 then zzv l 4 (cb l 0 - 240) 65536
 else none
def zsg(l:List UInt8):List Value:=match o4 l with
 | none=>[int (cb l 0),str (l.take 1),.bool true]
 | some r=>[int r.1,str (l.take r.2),.bool false]
theorem zSx:zc P 139=[int 0,str [],.bool false]:=by kernel_rfl
theorem zYG(n:Int)(s:ByteArray)(b:Bool):(zAa P 139).f [(0,int n),(1,.string s),(2,.bool b)]=some (agg [int n,.string s,.bool b]):=by kernel_rfl
theorem zOI{n0:Nat}(h:n0 < 32):∀ y,y≤3→nP l n0 y < 64 ^ y * 64:=by
 intro y hy
 match y,hy with
 | 0,_=>simp[nP]; omega
 | 1,_=>have:=zBi l 1; simp[nP]; omega
 | 2,_=>have:=zBi l 1; have:=zBi l 2; simp[nP]; omega
 | 3,_=>have:=zBi l 1; have:=zBi l 2; have:=zBi l 3; simp[nP]; omega
theorem zlK{n0:Nat}(y:Nat)(h:zbz l (y+1)=true):128≤64 * nP l n0 y+cb l (y+1):=by
 have:isC (cb l (y+1)):=by
  have h:(zbz l y && decide (isC (cb l (y+1))))=true:=h
  rw[Bool.and_eq_true] at h
  exact of_decide_eq_true h.2
 have:=this.1
 omega
set_option maxHeartbeats 2000000 in
theorem ztE{p2 p4 size n0 least:Nat}{Qx:LX}{Qr:LN}{bad:List Value}(hbl:bad.length=3)(hb1:bad.all oneCell=true)(hn0:n0 < 32)(hs1:2≤size)(hs:size≤4)(hl:size≤l.length)
  (hO:St H (Γ++[(p2,⟨[int 0,str [],.bool false],true⟩),(p4,⟨bad,true⟩)]))
  (hk1:zbz l (size - 1)=true→Qx 1 [str l,ptr p2 0,ptr p4 0,int size,int (nP l n0 (size - 1)),int least] H)
  (hk0:zbz l (size - 1)=false→∀ H' l',St H' (Γ++[(p2,⟨bad,true⟩),(p4,⟨bad,true⟩)])→nth l' 1=ptr p2 0→Qr l' H') :
  zHb P true 98 zqj 245 [str l,ptr p2 0,ptr p4 0,int size,int n0,int least,int 1] H Qx Qr:=by
 refine zbo (fun k l' H'=>∃ (y:Nat),y+1≤size∧k=size - y∧l'=[str l,ptr p2 0,ptr p4 0,int size,int (nP l n0 y),int least,int ((y+1:Nat):Int)]∧H=H'∧zbz l y=true) _ _ ?_ size _ _ ⟨0,by omega,by omega,rfl,rfl,rfl⟩
 rintro k l' H' ⟨y,hy,rfl,rfl,rfl,hc⟩
 unfold zIn
 try simp only[zia,zja]
 refine zaa zMa ?_
 refine zma (fun h=>?_) (fun h=>?_)
 ·have hy:y+1 < size:=by omega
  have hcb:=zBi l (y+1)
  have hnp:=zOI (l:=l) hn0 y (by omega)
  have hpw:64 ^ y≤64 ^ 3:=Nat.pow_le_pow_right (by omega) (by omega)
  refine zaa (zOB (by omega) (by omega)) ?_
  rw[Int.toNat_natCast]
  refine zva (zhB (k:=.u8) (by show cb l (y+1)≤_; omega)) ?_
  rw[show (l.getD (y+1) 0).toNat=cb l (y+1) from rfl]
  by_cases h2:isC (cb l (y+1))
  ·have hc2:zbz l (y+1)=true:=by show (zbz l y && decide (isC (cb l (y+1))))=true; rw[hc,decide_eq_true h2]; rfl
   have hge:=zlK (n0:=n0) y hc2
   obtain⟨g1,g2⟩:=h2
   refine zxa (fun l' H'=>l'=[str l,ptr p2 0,ptr p4 0,int size,int (nP l n0 y),int least,int ((y+1:Nat):Int),int (cb l (y+1)),.bool false]∧H=H') ?_ ?_
   ·repeat (first|refine oi ?_|refine ow ?_|refine wy ?_|refine wn ?_|refine wt ?_|refine wf' ?_|refine cy ?_|refine cn ?_)
    exact⟨by first|(rw[decide_eq_false (by omega)]; done)|(rw[decide_eq_false (by omega)]; rfl),(by first|rfl|trivial)⟩
   rintro l' H' ⟨rfl,rfl⟩
   try simp only[zia,zja]
   refine zDb rfl ?_
   refine zaa (zBg (by omega) (by omega)) ?_
   repeat (first|refine oi ?_|refine ow ?_|refine wy ?_|refine wn ?_|refine wt ?_|refine wf' ?_|refine cy ?_|refine cn ?_)
   refine⟨size - (y+1),by omega,y+1,by omega,rfl,?_,(by first|rfl|trivial),hc2⟩
   rw[show nP l n0 (y+1)=64 * nP l n0 y+cb l (y+1) - 128 from rfl]
   have e1:(64 * (nP l n0 y:Int)+(cb l (y+1):Int) - 128)=((64 * nP l n0 y+cb l (y+1) - 128:Nat):Int):=by omega
   rw[e1]; rfl
  ·have hcf:zbz l (size - 1)=false:=by
    have:∀ z,y+1≤z→zbz l z=false:=by
     intro z hz
     induction z with
     | zero=>omega
     | succ z ih=>
      show (zbz l z && decide (isC (cb l (z+1))))=false
      by_cases hz2:y+1≤z
      ·rw[ih hz2]; rfl
      ·have:z=y:=by omega
       subst this
       rw[decide_eq_false h2,Bool.and_false]
    exact this _ (by omega)
   refine zxa (fun l' H'=>l'=[str l,ptr p2 0,ptr p4 0,int size,int (nP l n0 y),int least,int ((y+1:Nat):Int),int (cb l (y+1)),.bool true]∧H=H') ?_ ?_
   ·refine zaa zMa ?_
    refine zma (fun h3=>?_) (fun h3=>?_)
    ·repeat (first|refine oi ?_|refine ow ?_|refine wy ?_|refine wn ?_|refine wt ?_|refine wf' ?_|refine cy ?_|refine cn ?_)
     exact⟨(by first|rfl|trivial),(by first|rfl|trivial)⟩
    ·repeat (first|refine oi ?_|refine ow ?_|refine wy ?_|refine wn ?_|refine wt ?_|refine wf' ?_|refine cy ?_|refine cn ?_)
     refine⟨?_,(by first|rfl|trivial)⟩
     unfold isC at h2
     rw[decide_eq_true (show (191:Int) < (cb l (y+1):Int) by omega)]
   rintro l' H' ⟨rfl,rfl⟩
   try simp only[zia,zja]
   refine zvd rfl ?_
   refine lw hO 1 rfl hbl (by omega) ?_
   refine sw hO 0 rfl rfl hbl hb1 ?_
   intro H2 hO2
   exact hk0 hcf _ _ hO2 rfl
 ·have e:y=size - 1:=by omega
  subst e
  exact hk1 hc
end J
set_option maxRecDepth 100000
namespace J
open Go Go.Ab
variable{H:Heap}{Γ Γ0 Γ2 Δ G L:List (Nat × Blk)}{K:VH}{v w x:Value}{xs ys zs bs b key ms:List Int}{j p q o n k:Nat}{e:Int}{cs cs':List Value}{l m:List UInt8}
theorem zSp(l:List UInt8):(zsg l).all oneCell=true∧(zsg l).length=3:=by
 unfold zsg
 split <;> exact⟨rfl,rfl⟩
theorem zLf{size n0 least:Nat}{r:Nat × Nat}(h:zzv l size n0 least=some r):size≤l.length∧r.2=size:=by
 unfold zzv at h
 split at h
 ·cases h
 ·split at h
  ·split at h
   ·cases h
   ·cases h; exact⟨by omega,rfl⟩
  ·cases h
theorem zQB{r:Nat × Nat}(h:o4 l=some r)(hl:l≠[]):1≤r.2∧r.2≤4∧r.2≤l.length:=by
 have hl:0 < l.length:=List.length_pos_iff.2 hl
 unfold o4 at h
 split at h
 ·cases h; exact⟨by simp,by simp,hl⟩
 split at h
 ·obtain⟨h1,h2⟩:=zLf h; omega
 split at h
 ·obtain⟨h1,h2⟩:=zLf h; omega
 split at h
 ·obtain⟨h1,h2⟩:=zLf h; omega
 ·cases h
set_option maxHeartbeats 4000000 in
theorem zuE(hl:l≠[])(hO:St H Γ)(hk:∀ H',St H' Γ→K (agg (zsg l)) H'):wCall P zYh [str l] H K:=by
 apply zEu; unfold zDu
 have hl1:0 < l.length:=List.length_pos_iff.2 hl
 have ha:=zBi l 0
 rw[zSx]
 refine nw hO.z ?_
 clear hO
 intro p2 H hO
 refine zaa (zOB (by omega) (by omega)) ?_
 rw[show (l.getD (0:Int).toNat 0).toNat=cb l 0 from rfl]
 refine zva (zhB (k:=.u8) (by omega)) ?_
 refine zaa (zPB (n:=1) (by omega)) ?_
 refine zaa (zYG _ _ _) ?_
 refine nw hO ?_
 clear hO
 intro p4 H hO
 refine sw hO 1 rfl rfl rfl rfl ?_
 clear hO
 intro H hO
 replace hO:St H (Γ++[(p2,⟨[int 0,str [],.bool false],true⟩),(p4,⟨[int (cb l 0),str (l.take 1),.bool true],true⟩)]):=hO
 by_cases h0:cb l 0 < 128
 ·repeat (first|refine oi ?_|refine ow ?_|refine wy ?_|refine wn ?_|refine wt ?_|refine wf' ?_|refine cy ?_|refine cn ?_)
  refine zaa (zPB (n:=1) (by omega)) ?_
  refine zaa (zYG _ _ _) ?_
  refine sw hO 0 rfl rfl rfl rfl ?_
  clear hO
  intro H hO
  refine lw hO 0 rfl rfl (by omega) ?_
  have:=hk _ hO.left
  unfold zsg at this
  rw[show o4 l=some (cb l 0,1) from if_pos h0] at this
  exact this
 have hbad:o4 l=none→∀ H (Δ:List (Nat × Blk)),St H (Γ++Δ)→K (agg [int (cb l 0),str (l.take 1),.bool true]) H:=fun h H Δ hO=>by
  have:=hk _ hO.left
  unfold zsg at this
  rw[h] at this
  exact this
 refine zaa zMa ?_
 refine zqc (by omega) ?_
 refine zxa (fun l' H'=>∃ (size n0 least:Nat),l'=[str l,ptr p2 0,ptr p4 0,int size,int n0,int least]∧H=H'∧n0 < 32∧2≤size∧size≤4∧o4 l=zzv l size n0 least) ?_ ?_
 ·by_cases c2:194≤cb l 0∧cb l 0 < 224
  ·refine zYa ?_
   repeat (first|refine oi ?_|refine ow ?_|refine wy ?_|refine wn ?_|refine wt ?_|refine wf' ?_|refine cy ?_|refine cn ?_)
   try simp only[zia,zja]
   repeat (first|refine oi ?_|refine ow ?_|refine wy ?_|refine wn ?_|refine wt ?_|refine wf' ?_|refine cy ?_|refine cn ?_)
   refine⟨2,cb l 0 - 192,128,by rw[show ((cb l 0 - 192:Nat):Int)=(cb l 0:Int) - 192 by omega]; rfl,(by first|rfl|trivial),by omega,by omega,by omega,?_⟩
   unfold o4
   rw[if_neg h0,if_pos c2]
  by_cases c3:224≤cb l 0∧cb l 0 < 240
  ·refine zxa (fun l' H'=>l'=[str l,ptr p2 0,int (cb l 0),ptr p4 0,int 0,int 0,int 0,.bool false]∧H=H') ?_ ?_
   ·repeat (first|refine oi ?_|refine ow ?_|refine wy ?_|refine wn ?_|refine wt ?_|refine wf' ?_|refine cy ?_|refine cn ?_)
    exact⟨by rw[decide_eq_false (by omega)],(by first|rfl|trivial)⟩
   rintro l' H' ⟨rfl,rfl⟩
   try simp only[zia,zja]
   refine zDb rfl ?_
   refine zYa ?_
   repeat (first|refine oi ?_|refine ow ?_|refine wy ?_|refine wn ?_|refine wt ?_|refine wf' ?_|refine cy ?_|refine cn ?_)
   try simp only[zia,zja]
   repeat (first|refine oi ?_|refine ow ?_|refine wy ?_|refine wn ?_|refine wt ?_|refine wf' ?_|refine cy ?_|refine cn ?_)
   refine⟨3,cb l 0 - 224,2048,by rw[show ((cb l 0 - 224:Nat):Int)=(cb l 0:Int) - 224 by omega]; rfl,(by first|rfl|trivial),by omega,by omega,by omega,?_⟩
   unfold o4
   rw[if_neg h0,if_neg c2,if_pos c3]
  refine zxa (fun l' H'=>l'=[str l,ptr p2 0,int (cb l 0),ptr p4 0,int 0,int 0,int 0,.bool false]∧H=H') ?_ ?_
  ·refine zaa zSf ?_
   refine zma (fun h1=>?_) (fun h1=>?_)
   ·repeat (first|refine oi ?_|refine ow ?_|refine wy ?_|refine wn ?_|refine wt ?_|refine wf' ?_|refine cy ?_|refine cn ?_)
    exact⟨by rw[decide_eq_false (by omega)],(by first|rfl|trivial)⟩
   ·repeat (first|refine oi ?_|refine ow ?_|refine wy ?_|refine wn ?_|refine wt ?_|refine wf' ?_|refine cy ?_|refine cn ?_)
    exact⟨(by first|rfl|trivial),(by first|rfl|trivial)⟩
  rintro l' H' ⟨rfl,rfl⟩
  try simp only[zia,zja]
  refine zDb rfl ?_
  refine zxa (fun l' H'=>l'=[str l,ptr p2 0,int (cb l 0),ptr p4 0,int 0,int 0,int 0,.bool false]∧H=H') ?_ ?_
  ·refine zaa zSf ?_
   refine zma (fun h1=>?_) (fun h1=>?_)
   ·repeat (first|refine oi ?_|refine ow ?_|refine wy ?_|refine wn ?_|refine wt ?_|refine wf' ?_|refine cy ?_|refine cn ?_)
    exact⟨by rw[decide_eq_false (by omega)],(by first|rfl|trivial)⟩
   ·repeat (first|refine oi ?_|refine ow ?_|refine wy ?_|refine wn ?_|refine wt ?_|refine wf' ?_|refine cy ?_|refine cn ?_)
    exact⟨(by first|rfl|trivial),(by first|rfl|trivial)⟩
  rintro l' H' ⟨rfl,rfl⟩
  try simp only[zia,zja]
  refine zDb rfl ?_
  by_cases c4:240≤cb l 0∧cb l 0 < 245
  ·refine zYa ?_
   repeat (first|refine oi ?_|refine ow ?_|refine wy ?_|refine wn ?_|refine wt ?_|refine wf' ?_|refine cy ?_|refine cn ?_)
   try simp only[zia,zja]
   repeat (first|refine oi ?_|refine ow ?_|refine wy ?_|refine wn ?_|refine wt ?_|refine wf' ?_|refine cy ?_|refine cn ?_)
   refine⟨4,cb l 0 - 240,65536,by rw[show ((cb l 0 - 240:Nat):Int)=(cb l 0:Int) - 240 by omega]; rfl,(by first|rfl|trivial),by omega,by omega,by omega,?_⟩
   unfold o4
   rw[if_neg h0,if_neg c2,if_neg c3,if_pos c4]
  have hn:o4 l=none:=by unfold o4; rw[if_neg h0,if_neg c2,if_neg c3,if_neg c4]
  refine zxa (fun l' H'=>l'=[str l,ptr p2 0,int (cb l 0),ptr p4 0,int 0,int 0,int 0,.bool false]∧H=H') ?_ ?_
  ·refine zaa zSf ?_
   refine zma (fun h1=>?_) (fun h1=>?_)
   ·repeat (first|refine oi ?_|refine ow ?_|refine wy ?_|refine wn ?_|refine wt ?_|refine wf' ?_|refine cy ?_|refine cn ?_)
    exact⟨by rw[decide_eq_false (by omega)],(by first|rfl|trivial)⟩
   ·repeat (first|refine oi ?_|refine ow ?_|refine wy ?_|refine wn ?_|refine wt ?_|refine wf' ?_|refine cy ?_|refine cn ?_)
    exact⟨(by first|rfl|trivial),(by first|rfl|trivial)⟩
  rintro l' H' ⟨rfl,rfl⟩
  try simp only[zia,zja]
  refine zDb rfl ?_
  refine lw hO 1 rfl rfl (by omega) ?_
  refine sw hO 0 rfl rfl rfl rfl ?_
  clear hO
  intro H hO
  refine lw hO 0 rfl rfl (by omega) ?_
  exact hbad hn _ _ hO
 rintro l' H' ⟨size,n0,least,rfl,rfl,g1,g2,g3,g4⟩
 try simp only[zia,zja]
 refine zva zft ?_
 refine zaa zMa ?_
 refine zma (fun h=>?_) (fun h=>?_)
 ·refine lw hO 1 rfl rfl (by omega) ?_
  refine sw hO 0 rfl rfl rfl rfl ?_
  clear hO
  intro H hO
  refine lw hO 0 rfl rfl (by omega) ?_
  refine hbad ?_ _ _ hO
  rw[g4]; unfold zzv
  rw[if_pos (by omega)]
 refine ztE rfl rfl g1 g2 g3 (by omega) hO ?_ ?_
 ·intro hc
  refine zZa rfl ?_
  have hlt:=zOI (l:=l) g1 (size - 1) (by omega)
  have hs:o4 l=if nP l n0 (size - 1) < least∨nP l n0 (size - 1) > 1114111∨(55296≤nP l n0 (size - 1)∧nP l n0 (size - 1)≤57343) then none else some (nP l n0 (size - 1),size):=by
   rw[g4]; unfold zzv
   rw[if_neg (by omega),if_pos hc]
  generalize nP l n0 (size - 1)=N at *
  try simp only[zia,zja]
  refine zxa (fun l' H'=>l'=[str l,ptr p2 0,ptr p4 0,int size,int N,.bool (decide (N < least∨N > 1114111∨(55296≤N∧N≤57343)))]∧H=H') ?_ ?_
  ·by_cases z1:N < least
   ·repeat (first|refine oi ?_|refine ow ?_|refine wy ?_|refine wn ?_|refine wt ?_|refine wf' ?_|refine cy ?_|refine cn ?_)
    exact⟨by rw[decide_eq_true (show N < least∨N > 1114111∨(55296≤N∧N≤57343) from .inl z1)],(by first|rfl|trivial)⟩
   by_cases z2:N > 1114111
   ·repeat (first|refine oi ?_|refine ow ?_|refine wy ?_|refine wn ?_|refine wt ?_|refine wf' ?_|refine cy ?_|refine cn ?_)
    exact⟨by rw[decide_eq_true (show N < least∨N > 1114111∨(55296≤N∧N≤57343) from .inr (.inl z2))],(by first|rfl|trivial)⟩
   by_cases z3:55296≤N
   ·repeat (first|refine oi ?_|refine ow ?_|refine wy ?_|refine wn ?_|refine wt ?_|refine wf' ?_|refine cy ?_|refine cn ?_)
    exact⟨by rw[decide_eq_decide.2 (show ((N:Int)≤57343)↔(N < least∨N > 1114111∨(55296≤N∧N≤57343)) by omega)],(by first|rfl|trivial)⟩
   ·repeat (first|refine oi ?_|refine ow ?_|refine wy ?_|refine wn ?_|refine wt ?_|refine wf' ?_|refine cy ?_|refine cn ?_)
    exact⟨by rw[decide_eq_false (show ¬ (N < least∨N > 1114111∨(55296≤N∧N≤57343)) by omega)],(by first|rfl|trivial)⟩
  rintro l' H' ⟨rfl,rfl⟩
  try simp only[zia,zja]
  refine zma (fun z=>?_) (fun z=>?_)
  ·refine lw hO 1 rfl rfl (by omega) ?_
   refine sw hO 0 rfl rfl rfl rfl ?_
   clear hO
   intro H hO
   refine lw hO 0 rfl rfl (by omega) ?_
   exact hbad (by rw[hs,if_pos z]) _ _ hO
  ·refine zaa (zPB (by omega)) ?_
   refine zaa (zYG _ _ _) ?_
   refine sw hO 0 rfl rfl rfl rfl ?_
   clear hO
   intro H hO
   refine lw hO 0 rfl rfl (by omega) ?_
   have:=hk _ hO.left
   unfold zsg at this
   rw[hs,if_neg z] at this
   exact this
 ·intro hc H l' hO hp
  rw[hp]
  refine lw hO 0 rfl rfl (by omega) ?_
  refine hbad ?_ _ _ hO
  rw[g4]; unfold zzv
  rw[if_neg (by omega),if_neg (by rw[hc]; simp)]
end J
set_option maxRecDepth 100000
namespace J
open Go Go.Ab
variable{H:Heap}{Γ Γ0 Γ2 Δ G L:List (Nat × Blk)}{K:VH}{v w x:Value}{xs ys zs bs b key ms:List Int}{j p q o n k:Nat}{e:Int}{cs cs':List Value}{l m:List UInt8}{ds:List (List UInt8)}
def wid(l:List UInt8):Nat:=match o4 l with
 | none=>1
 | some r=>r.2
def zXu:Nat→List UInt8→List (List UInt8)
 | 0,_=>[]
 | n+1,l=>if l=[] then [] else l::zXu n (l.drop (wid l))
def ztt(l:List UInt8):List (List UInt8):=zXu l.length l
theorem zgt(hl:l≠[]):1≤wid l∧wid l≤l.length:=by
 unfold wid
 split
 ·exact⟨Nat.le_refl _,List.length_pos_iff.2 hl⟩
 ·rename_i r h
  have:=zQB h hl
  exact⟨this.1,this.2.2⟩
theorem zht:∀ (n:Nat) (l:List UInt8),(zXu n l).length≤n
 | 0,_=>Nat.zero_le _
 | n+1,l=>by
  unfold zXu
  split
  ·exact Nat.zero_le _
  ·have:=zht n (l.drop (wid l))
   simpa using this
theorem zZG(l:List UInt8):(zsg l)[1]?=some (str (l.take (wid l))):=by
 unfold zsg wid
 cases o4 l <;> rfl
theorem zPI(a b c:Value)(H:Heap):(zla P 136 1).f [(0,agg [a,b,c])] H=some (sl H.next 0 1 7,H.push [a,b,c]):=by kernel_rfl
theorem zaH(H:Heap):(zla P 136 0).f [] H=some (sl H.next 0 0 7,H.push []):=by kernel_rfl
theorem three{l:List Value}(h:l.length=3):∃ a b c,l=[a,b,c]:=by
 match l,h with
 | [a,b,c],_=>exact⟨a,b,c,rfl⟩
abbrev rnC(ds:List (List UInt8)):List Value:=ds.flatMap zsg
set_option maxHeartbeats 2000000 in
theorem zJr(hl:l.length≤1000000)(hO:St H Γ)(hk:∀ H' v,St H' (Γ++zKa v (rnC (ztt l)))→Own 3 v (ztt l).length (rnC (ztt l))→K v H'):wCall P zoe [str l] H K:=by
 apply zEq; unfold zBp
 refine zDa hO (zaH _) ?_
 clear hO
 intro q H hO
 refine zJl (fun k l' H'=>∃ (r:List UInt8) (ds:List (List UInt8)) (v:Value),r.length≤k∧ds.length+k≤l.length∧ztt l=ds++zXu k r∧l'=[str r,zqa,v]∧St H' (Γ++zKa v (rnC ds))∧Own 3 v ds.length (rnC ds)) _ _ ?_ l.length _ _ ⟨l,[],sl q 0 0 7,Nat.le_refl _,by simp,rfl,rfl,hO,.inr ⟨q,.inr rfl,rfl⟩⟩
 clear hO
 rintro k l' H ⟨r,ds,v,hr,hd,he,rfl,hO,hv⟩
 unfold zuk
 try simp only[zia,zja]
 refine zaa (show _=some (.bool (!(r == []))) from rfl) ?_
 by_cases h0:r=[]
 ·subst h0
  refine zDb rfl ?_
  refine zZa rfl ?_
  try simp only[zia,zja]
  have e0:zXu k []=[]:=by cases k <;> rfl
  rw[e0,List.append_nil] at he
  rw[he] at hk
  exact hk H v hO hv
 ·have hb:(r == [])=false:=by cases r <;> first|rfl|exact absurd rfl h0
  rw[hb]
  refine zvd rfl ?_
  refine zuE h0 hO ?_
  clear hO
  intro H hO
  rw[zSx]
  obtain⟨g1,g2⟩:=zSp r
  refine zeb hO ?_
  clear hO
  intro p4 H hO
  refine zya hO (_+0) (zwa rfl) rfl g2 g1 ?_
  clear hO
  intro H hO
  replace hO:=hO.set_r
  replace hO:St H ((Γ++zKa v (rnC ds))++[(p4,⟨zsg r,true⟩)]):=hO
  refine zFa hO (_+0) (zwa rfl) g2 (by omega) ?_
  obtain⟨ca,cb,cc,hc⟩:=three g2
  refine zDa hO (by rw[hc]; exact zPI _ _ _ _) ?_
  rw[← hc]
  clear hO
  intro q2 H hO
  replace hO:St H (((Γ++[(p4,⟨zsg r,true⟩)])++zKa v (rnC ds))++[(q2,⟨zsg r,true⟩)]):=hO.perm (by classical exact List.perm_iff_count.2 fun _=>by simp only[List.count_append,List.count_nil,List.set_cons_zero]; omega)
  refine zYe hO hv g2 (by omega) g1 (by omega) (by omega) ?_
  clear hO
  intro v2 H hO hv2
  obtain⟨w1,w2⟩:=zgt h0
  refine zaa zba ?_
  refine zoa hO (Γ.length+0) (zCa (zwa rfl)) (v:=str (r.take (wid r))) (zZG r) ?_
  refine zva zft ?_
  rw[List.length_take,Nat.min_eq_left w2]
  refine zaa (zsE w2) ?_
  cases k with
  | zero=>omega
  | succ k=>
   refine⟨k,Nat.lt_succ_self _,r.drop (wid r),ds++[r],v2,?_,?_,?_,rfl,?_,?_⟩
   ·rw[List.length_drop]; omega
   ·rw[List.length_append]; simp; omega
   ·rw[he]
    show ds++(if r=[] then [] else r::zXu k (r.drop (wid r)))=_
    rw[if_neg h0]; simp
   ·replace hO:St H (Γ++zKa v2 (rnC ds++zsg r)):=St.mid hO
    simpa using hO
   ·simpa using hv2
def okR(l:List UInt8)(first:Bool):Bool:=match o4 l with
 | none=>false
 | some r=>Go.Lib.isLetterU r.1 || (!first && (Go.Lib.isDigitU r.1 || (l.take r.2 == [45] || (l.take r.2 == [95] || l.take r.2 == [46]))))
def zPJ(l:List UInt8):Bool:=match o4 l with
 | none=>false
 | some r=>Go.Lib.isLetterU r.1
def zcn:Nat→List (List UInt8)→Bool
 | _,[]=>true
 | i,r::ds=>okR r (i == 0) && zcn (i+1) ds
def nm4(l:List UInt8):Int:=if (ztt l).length=0∨(ztt l).length > 24 then 41 else if zcn 0 (ztt l)=true then 0 else 41
theorem zQI{n:Int}(h0:0≤n)(h1:n < 2147483648):zSb .i32 (int n) H=some (.int .i32 n,H):=by
 show some (Value.int .i32 (zxc .i32 n),H)=_
 have:zxc .i32 n=n:=by
  show znf 2147483648 4294967296 n=n
  unfold znf
  obtain⟨m,rfl⟩:∃ m:Nat,n=m:=⟨n.toNat,by omega⟩
  have hb:Nat.blt m 2147483648=true:=by rw[blt_eq,decide_eq_true (by omega)]
  show (match Nat.blt m 2147483648 with|true=>Int.ofNat m|false=>_)=_
  rw[hb]; rfl
 rw[this]
theorem zcz{i:Nat}{ds:List (List UInt8)}:∀ (y:Nat) (h:y < ds.length),zcn (i+y) (ds.drop y)=(okR ds[y] (i+y == 0) && zcn (i+(y+1)) (ds.drop (y+1))):=by
 intro y h
 rw[List.drop_eq_getElem_cons h]
 rfl
end J
set_option maxRecDepth 100000
namespace J
open Go Go.Ab
variable{H:Heap}{Γ Γ0 Γ2 Δ G L:List (Nat × Blk)}{K:VH}{v w x:Value}{xs ys zs bs b key ms:List Int}{j p q o n k:Nat}{e:Int}{cs cs':List Value}{l m:List UInt8}{ds:List (List UInt8)}
theorem zDw{size n0 least:Nat}{r:Nat × Nat}(h:zzv l size n0 least=some r):r.1≤1114111:=by
 unfold zzv at h
 split at h
 ·cases h
 ·split at h
  ·split at h
   ·cases h
   ·cases h; simp only; omega
  ·cases h
theorem zRI{r:Nat × Nat}(h:o4 l=some r):r.1≤1114111:=by
 have:=zBi l 0
 unfold o4 at h
 split at h
 ·cases h; simp only; omega
 split at h
 ·exact zDw h
 split at h
 ·exact zDw h
 split at h
 ·exact zDw h
 ·cases h
structure Rn3 (l:List UInt8) (n:Nat) (bt:List UInt8) (br:Bool):Prop where
 cells:zsg l=[int n,str bt,.bool br]
 lt:n≤1114111
 let':zPJ l=(!br && Go.Lib.isLetterU n)
 ok:∀ f,okR l f=(!br && (Go.Lib.isLetterU n || (!f && (Go.Lib.isDigitU n || (bt == [45] || (bt == [95] || bt == [46]))))))
theorem rn3(l:List UInt8):∃ n bt br,Rn3 l n bt br:=by
 cases h:o4 l with
 | none=>exact⟨cb l 0,l.take 1,true,by unfold zsg; rw[h],by have:=zBi l 0; omega,by unfold zPJ; rw[h]; rfl,fun f=>by unfold okR; rw[h]; rfl⟩
 | some r=>exact⟨r.1,l.take r.2,false,by unfold zsg; rw[h],zRI h,by unfold zPJ; rw[h]; rfl,fun f=>by unfold okR; rw[h]; rfl⟩
set_option maxHeartbeats 4000000 in
theorem zRB{Qx:LX}{Qr:LN}(hl:ds.length≤1000000)(hv:Own 3 v ds.length (rnC ds))(hO:St H (Γ++zKa v (rnC ds)))
  (hk1:zcn 0 ds=true→∀ H',St H' Γ→Qx 0 [int 0] H') (hk0:zcn 0 ds=false→∀ H',St H' Γ→Qr [int 41] H') :
  zHb P true 64 zbi 4 [int 0,v,int ds.length,int 0] H Qx Qr:=by
 refine zRm (fun k l' H'=>∃ (y:Nat),y≤ds.length∧k=ds.length - y∧l'=[int 0,v,int ds.length,int y]∧St H' (Γ++zKa v (rnC ds))∧zcn 0 ds=zcn y (ds.drop y)) _ _ ?_ ds.length _ _ ⟨0,by omega,by omega,rfl,hO,rfl⟩
 clear hO
 rintro k l' H ⟨y,hy,rfl,rfl,hO,hok⟩
 unfold zIl
 try simp only[zia,zja]
 refine zaa zMa ?_
 refine zma (fun h=>?_) (fun h=>?_)
 ·have hy:y < ds.length:=by omega
  obtain⟨pv,cv,rfl,hΓ⟩:∃ pv cv,v=sl pv 0 ds.length cv∧zKa v (rnC ds)=[(pv,⟨rnC ds,true⟩)]:=by
   rcases hv with⟨_,h0,_⟩|⟨pv,rfl|rfl,_⟩
   ·omega
   ·exact⟨pv,_,rfl,rfl⟩
   ·exact⟨pv,_,rfl,rfl⟩
  rw[hΓ] at hO
  have hdrop:=zcz (i:=0) (ds:=ds) y hy
  rw[Nat.zero_add,Nat.zero_add] at hdrop
  rw[hdrop] at hok
  obtain⟨n,bt,br,r3⟩:=rn3 ds[y]
  have hcells:=zsw (f:=zsg) (n:=3) (l:=ds) (i:=y) (o:=0) (m:=3) (fun x _=>(zSp x).2) hy (by omega)
  rw[r3.cells] at hcells
  refine zaa (zqb (by omega) (by omega)) ?_
  refine zua hO (Γ.length+0) (zwa rfl) (show _=[int n,str bt,.bool br] from by rw[show 0+(y:Int).toNat * 3=y * 3+0 by omega]; exact hcells) rfl (by omega) ?_
  rw[zSx]
  refine nw hO ?_
  clear hO
  intro p5 H hO
  refine sw hO 1 rfl rfl rfl rfl ?_
  clear hO
  intro H hO
  replace hO:St H (Γ++[(pv,⟨rnC ds,true⟩),(p5,⟨[int n,str bt,.bool br],true⟩)]):=hO
  repeat (first|refine oi ?_|refine ow ?_|refine wy ?_|refine wn ?_|refine wt ?_|refine wf' ?_|refine cy ?_|refine cn ?_|refine ld hO 0 rfl rfl ?_|refine ld hO 1 rfl rfl ?_|refine ld hO 2 rfl rfl ?_|refine ld hO 3 rfl rfl ?_|refine ld hO 4 rfl rfl ?_|refine ld hO 5 rfl rfl ?_)
  have hn:=r3.lt
  refine zva (zQI (by omega) (by omega)) ?_
  refine zxa (fun l' H'=>l'=[int 0,int y,ptr p5 0,.int .i32 n,.bool (zPJ ds[y]),sl pv 0 ds.length cv,int ds.length,int y]∧H=H') ?_ ?_
  ·repeat (first|refine oi ?_|refine ow ?_|refine wy ?_|refine wn ?_|refine wt ?_|refine wf' ?_|refine cy ?_|refine cn ?_|refine ld hO 0 rfl rfl ?_|refine ld hO 1 rfl rfl ?_|refine ld hO 2 rfl rfl ?_|refine ld hO 3 rfl rfl ?_|refine ld hO 4 rfl rfl ?_|refine ld hO 5 rfl rfl ?_)
   rw[r3.let']
   cases br with
   | true=>
    refine zDb rfl ?_
    repeat (first|refine oi ?_|refine ow ?_|refine wy ?_|refine wn ?_|refine wt ?_|refine wf' ?_|refine cy ?_|refine cn ?_)
    exact⟨(by first|rfl|trivial),(by first|rfl|trivial)⟩
   | false=>
    refine zvd rfl ?_
    refine zpw (by omega) (by omega) ?_
    repeat (first|refine oi ?_|refine ow ?_|refine wy ?_|refine wn ?_|refine wt ?_|refine wf' ?_|refine cy ?_|refine cn ?_)
    exact⟨(by first|rfl|trivial),(by first|rfl|trivial)⟩
  rintro l' H' ⟨rfl,rfl⟩
  try simp only[zia,zja]
  refine zxa (fun l' H'=>l'=[int 0,.bool (okR ds[y] (y == 0)),sl pv 0 ds.length cv,int ds.length,int y]∧H=H') ?_ ?_
  ·rw[r3.let',r3.ok]
   refine zaa zTb ?_
   refine zma (fun h0=>?_) (fun h0=>?_)
   ·have e0:(y == 0)=false:=by simp; omega
    rw[e0]
    repeat (first|refine oi ?_|refine ow ?_|refine wy ?_|refine wn ?_|refine wt ?_|refine wf' ?_|refine cy ?_|refine cn ?_|refine ld hO 0 rfl rfl ?_|refine ld hO 1 rfl rfl ?_|refine ld hO 2 rfl rfl ?_|refine ld hO 3 rfl rfl ?_|refine ld hO 4 rfl rfl ?_|refine ld hO 5 rfl rfl ?_)
    cases br with
    | true=>
     refine zDb rfl ?_
     repeat (first|refine oi ?_|refine ow ?_|refine wy ?_|refine wn ?_|refine wt ?_|refine wf' ?_|refine cy ?_|refine cn ?_)
     exact⟨(by first|rfl|trivial),(by first|rfl|trivial)⟩
    | false=>
     refine zvd rfl ?_
     refine zNy (by omega) (by omega) ?_
     refine zTc (fun hd=>?_) (fun hd=>?_)
     ·rw[hd]
      repeat (first|refine oi ?_|refine ow ?_|refine wy ?_|refine wn ?_|refine wt ?_|refine wf' ?_|refine cy ?_|refine cn ?_)
      exact⟨by simp,(by first|rfl|trivial)⟩
     ·rw[hd]
      repeat (first|refine oi ?_|refine ow ?_|refine wy ?_|refine wn ?_|refine wt ?_|refine wf' ?_|refine cy ?_|refine cn ?_|refine ld hO 0 rfl rfl ?_|refine ld hO 1 rfl rfl ?_|refine ld hO 2 rfl rfl ?_|refine ld hO 3 rfl rfl ?_|refine ld hO 4 rfl rfl ?_|refine ld hO 5 rfl rfl ?_)
      refine zaa (show _=some (.bool (bt == [45])) from rfl) ?_
      refine zaa zwb ?_
      refine zTc (fun h1=>?_) (fun h1=>?_)
      ·rw[h1]
       repeat (first|refine oi ?_|refine ow ?_|refine wy ?_|refine wn ?_|refine wt ?_|refine wf' ?_|refine cy ?_|refine cn ?_)
       exact⟨by simp,(by first|rfl|trivial)⟩
      ·rw[h1]
       repeat (first|refine oi ?_|refine ow ?_|refine wy ?_|refine wn ?_|refine wt ?_|refine wf' ?_|refine cy ?_|refine cn ?_|refine ld hO 0 rfl rfl ?_|refine ld hO 1 rfl rfl ?_|refine ld hO 2 rfl rfl ?_|refine ld hO 3 rfl rfl ?_|refine ld hO 4 rfl rfl ?_|refine ld hO 5 rfl rfl ?_)
       refine zaa (show _=some (.bool (bt == [95])) from rfl) ?_
       refine zaa zwb ?_
       refine zTc (fun h2=>?_) (fun h2=>?_)
       ·rw[h2]
        repeat (first|refine oi ?_|refine ow ?_|refine wy ?_|refine wn ?_|refine wt ?_|refine wf' ?_|refine cy ?_|refine cn ?_)
        exact⟨by simp,(by first|rfl|trivial)⟩
       ·rw[h2]
        repeat (first|refine oi ?_|refine ow ?_|refine wy ?_|refine wn ?_|refine wt ?_|refine wf' ?_|refine cy ?_|refine cn ?_|refine ld hO 0 rfl rfl ?_|refine ld hO 1 rfl rfl ?_|refine ld hO 2 rfl rfl ?_|refine ld hO 3 rfl rfl ?_|refine ld hO 4 rfl rfl ?_|refine ld hO 5 rfl rfl ?_)
        refine zaa (show _=some (.bool (bt == [46])) from rfl) ?_
        refine zaa zwb ?_
        repeat (first|refine oi ?_|refine ow ?_|refine wy ?_|refine wn ?_|refine wt ?_|refine wf' ?_|refine cy ?_|refine cn ?_)
        refine zTc (fun h3=>?_) (fun h3=>?_)
        ·rw[h3]
         exact⟨by simp,(by first|rfl|trivial)⟩
        ·rw[h3]
         exact⟨by simp,(by first|rfl|trivial)⟩
   ·have e0:(y == 0)=true:=by simp; omega
    rw[e0]
    repeat (first|refine oi ?_|refine ow ?_|refine wy ?_|refine wn ?_|refine wt ?_|refine wf' ?_|refine cy ?_|refine cn ?_)
    exact⟨by simp,(by first|rfl|trivial)⟩
  rintro l' H' ⟨rfl,rfl⟩
  try simp only[zia,zja]
  refine zaa zGc ?_
  cases hz:okR ds[y] (y == 0) with
  | false=>
   rw[hz] at hok
   refine zvd rfl ?_
   exact hk0 hok _ hO.left
  | true=>
   rw[hz] at hok
   refine zDb rfl ?_
   repeat (first|refine oi ?_|refine ow ?_|refine wy ?_|refine wn ?_|refine wt ?_|refine wf' ?_|refine cy ?_|refine cn ?_)
   refine⟨ds.length - (y+1),by omega,y+1,by omega,rfl,rfl,?_,?_⟩
   ·rw[hΓ]; exact zji (A:=[(pv,⟨rnC ds,true⟩)]) hO
   ·rw[hok]; rfl
 ·have e:y=ds.length:=by omega
  subst e
  rw[List.drop_of_length_le (Nat.le_refl _)] at hok
  exact hk1 hok _ hO.left
theorem zTp(hl:l.length≤1000000)(hO:St H Γ)(hk:∀ H',St H' Γ→K (int (nm4 l)) H'):wCall P zhf [str l] H K:=by
 apply zPs; unfold zvr
 refine zJr hl hO ?_
 clear hO
 intro H v hO hv
 have hsl:(ztt l).length≤l.length:=zht _ _
 unfold nm4 at hk
 generalize ztt l=ds at *
 refine zxa (fun l' H'=>l'=[int 0,v]∧H=H'∧¬ (ds.length=0∨ds.length > 24)) ?_ ?_
 ·refine zva hv.lenSl ?_
  refine zaa zUa ?_
  refine zma (fun h=>?_) (fun h=>?_)
  ·repeat (first|refine oi ?_|refine ow ?_|refine wy ?_|refine wn ?_|refine wt ?_|refine wf' ?_|refine cy ?_|refine cn ?_)
   have:=hk H hO.left
   rw[if_pos (.inl (by omega))] at this
   exact this
  ·refine zva hv.lenSl ?_
   refine zaa zTb ?_
   refine zaa (zWa h) ?_
   refine zma (fun h2=>?_) (fun h2=>?_)
   ·have:=hk H hO.left
    rw[if_pos (.inr (by omega))] at this
    exact this
   ·exact⟨rfl,rfl,by omega⟩
 rintro l' H' ⟨rfl,rfl,hn⟩
 try simp only[zia,zja]
 rw[if_neg hn] at hk
 refine zva hv.lenSl ?_
 refine zRB (by omega) hv hO ?_ ?_
 ·intro h H hO
  rw[if_pos h] at hk
  exact hk H hO
 ·intro h H hO
  rw[if_neg (by rw[h]; simp)] at hk
  exact hk H hO
end J
set_option maxRecDepth 100000
namespace J
open Go Go.Ab
variable{l m:List UInt8}{ds:List (List UInt8)}
abbrev bsl(l:List UInt8):ByteArray:=⟨l.toArray⟩
theorem zSI(l:List UInt8)(k:Nat):((bsl l).get! k).toNat=cb l k:=by
 show ((l.toArray)[k]!).toNat=(l.getD k 0).toNat
 rw[List.getD_eq_getElem?_getD]
 by_cases h:k < l.length
 ·rw[getElem!_pos _ _ (by simpa using h),List.getElem?_eq_getElem h]; rfl
 ·rw[getElem!_neg _ _ (by simpa using h),List.getElem?_eq_none (by omega)]; rfl
theorem zQg(l:List UInt8):(bsl l).size=l.length:=rfl
set_option maxHeartbeats 4000000 in
theorem zkF(hl:l≠[]):(o4 l=none→Utf8.decode (bsl l) 0=(65533,1))∧(∀ r,o4 l=some r→Utf8.decode (bsl l) 0=r):=by
 have hl1:0 < l.length:=List.length_pos_iff.2 hl
 have c0:=zBi l 0
 have c1:=zBi l 1
 have c2:=zBi l 2
 have c3:=zBi l 3
 have key:Utf8.decode (bsl l) 0=(o4 l).getD (65533,1):=by
  unfold Utf8.decode
  simp only[Nat.zero_add,zSI,zQg,Utf8.runeError,Utf8.valid]
  unfold o4 zzv
  have hi:∀ c,(decide (isC c)=true)=(128≤c∧c≤191):=fun c=>by rw[decide_eq_true_eq]; rfl
  simp only[zbz,nP,hi,Bool.true_and,Bool.and_eq_true,decide_eq_true_eq,beq_iff_eq,Nat.add_one_sub_one,Nat.reduceSub,Nat.reduceAdd]
  generalize cb l 0=a at *
  generalize cb l 1=b at *
  generalize cb l 2=c at *
  generalize cb l 3=d at *
  generalize l.length=n at *
  simp only[Bool.or_eq_true,Bool.and_eq_true,decide_eq_true_eq]
  repeat' split
  all_goals simp only[Option.getD_some,Option.getD_none]
  all_goals first
   | rfl
   | (exfalso; omega)
   | (refine Prod.ext ?_ rfl; show (_:Nat)=_; omega)
 constructor
 ·intro h; rw[key,h]; rfl
 ·intro r h; rw[key,h]; rfl
theorem zTI{r:Nat × Nat}(h:o4 l=some r):¬ (r.1=65533∧r.2=1):=by
 have:=zBi l 0
 unfold o4 at h
 split at h
 ·cases h; simp only; omega
 split at h
 ·have:=(zLf h).2; omega
 split at h
 ·have:=(zLf h).2; omega
 split at h
 ·have:=(zLf h).2; omega
 ·cases h
theorem zEw{size n0 least:Nat}{r:Nat × Nat}(h:zzv l size n0 least=some r):least≤r.1:=by
 unfold zzv at h
 split at h
 ·cases h
 ·split at h
  ·split at h
   ·cases h
   ·cases h; simp only; omega
  ·cases h
theorem zUI{r:Nat × Nat}(h:o4 l=some r):(r.1 < 128→r.2=1∧r.1=cb l 0)∧(r.2=1→r.1=cb l 0∧r.1 < 128):=by
 have:=zBi l 0
 unfold o4 at h
 split at h
 ·cases h; exact⟨fun _=>⟨rfl,rfl⟩,fun _=>⟨rfl,by assumption⟩⟩
 split at h
 ·have:=(zLf h).2; have:=zEw h; exact⟨fun _=>by omega,fun _=>by omega⟩
 split at h
 ·have:=(zLf h).2; have:=zEw h; exact⟨fun _=>by omega,fun _=>by omega⟩
 split at h
 ·have:=(zLf h).2; have:=zEw h; exact⟨fun _=>by omega,fun _=>by omega⟩
 ·cases h
theorem zFw{r:Nat × Nat}(hl:l≠[])(h:o4 l=some r)(c:UInt8)(hc:c.toNat < 128):(l.take r.2 == [c])=((r.1:Int) == (c.toNat:Int)):=by
 obtain⟨h1,h2⟩:=zUI h
 obtain⟨w1,w2,w3⟩:=zQB h hl
 match l,hl with
 | a::t,_=>
 have ha:cb (a::t) 0=a.toNat:=rfl
 rw[Bool.eq_iff_iff,beq_iff_eq,beq_iff_eq]
 constructor
 ·intro e
  have hw:r.2=1:=by
   have:=congrArg List.length e
   rw[List.length_take] at this
   simp at this
   simp at w3
   omega
  rw[hw] at e
  have e:[a]=[c]:=by simpa using e
  cases e
  have:=(h2 hw).1
  rw[this,ha]
 ·intro e
  have hr:r.1=c.toNat:=by omega
  obtain⟨hw,hq⟩:=h1 (by omega)
  rw[hw]
  have:a=c:=by
   apply UInt8.toNat_inj.1
   omega
  simp[this]
theorem zSB(l:List UInt8)(pos i:Nat)(hp:pos < l.length):Seal.badF (bsl l) pos i=!okR (l.drop pos) (i == 0)∧(Utf8.decode (bsl l) pos).2=wid (l.drop pos):=by
 have hne:l.drop pos≠[]:=by
  intro h
  have:=congrArg List.length h
  simp at this
  omega
 have hx:(bsl l).extract pos (bsl l).size=bsl (l.drop pos):=by
  apply ByteArray.ext
  apply Array.ext'
  show _=l.drop pos
  rw[ByteArray.data_extract,Array.toList_extract]
  simp only[List.extract,zQg]
  exact List.take_of_length_le (by simp)
 have ht:=Go.Lib.tail_decode (bsl l) pos 0
 rw[hx,Nat.add_zero] at ht
 obtain⟨d0,d1⟩:=zkF hne
 have hz:(((i:Int)) == 0)=(i == 0):=by cases i <;> rfl
 unfold Seal.badF Seal.brF
 rw[hx]
 have hgo:Go.Lib.decodeGo (bsl (l.drop pos))=Utf8.decode (bsl (l.drop pos)) 0:=by
  unfold Go.Lib.decodeGo
  rw[if_neg (by rw[zQg]; intro h; exact hne (List.length_eq_zero_iff.1 h))]
 rw[hgo,← ht,hz]
 cases ho:o4 (l.drop pos) with
 | none=>
  rw[d0 ho]
  unfold okR wid
  rw[ho]
  exact⟨rfl,rfl⟩
 | some r=>
  rw[d1 r ho]
  refine⟨?_,by unfold wid; rw[ho]⟩
  have hfd:=zTI ho
  rw[decide_eq_false (show ¬ ((r.1:Int)=65533∧r.2=1) by omega),Bool.false_or]
  unfold okR Seal.partF
  rw[ho]
  simp only
  rw[zFw hne ho 45 (by decide),zFw hne ho 95 (by decide),zFw hne ho 46 (by decide)]
  show (!_)=!_
  congr 2
  rw[show ((45:UInt8).toNat:Int)=45 from rfl,show ((95:UInt8).toNat:Int)=95 from rfl,show ((46:UInt8).toNat:Int)=46 from rfl]
  simp only[Bool.or_assoc]
theorem zlF(l:List UInt8):∀ (b pos i:Nat),pos≤l.length→Seal.nmF (bsl l) b pos i=if zcn i (zXu b (l.drop pos))=true then Seal.finF ((i+(zXu b (l.drop pos)).length:Nat):Int) else 41
 | 0,pos,i,_=>by
  show Seal.finF i=if zcn i []=true then Seal.finF ((i+0:Nat):Int) else 41
  rfl
 | b+1,pos,i,hp=>by
  unfold Seal.nmF zXu
  by_cases h:pos < l.length
  ·obtain⟨h1,h2⟩:=zSB l pos i h
   have hne:l.drop pos≠[]:=by
    intro h
    have:=congrArg List.length h
    simp at this
    omega
   have hw:=zgt hne
   rw[List.length_drop] at hw
   rw[if_pos (show pos < (bsl l).size from h),if_neg hne,h1,h2]
   cases ho:okR (l.drop pos) (i == 0) with
   | false=>
    rw[if_pos (show (!false)=true from rfl),if_neg]
    show ¬ (okR (l.drop pos) (i == 0) && zcn (i+1) _)=true
    rw[ho]; simp
   | true=>
    rw[if_neg (show ¬ (!true)=true by simp)]
    have ih:=zlF l b (pos+wid (l.drop pos)) (i+1) (by omega)
    rw[show ((i:Int)+1)=((i+1:Nat):Int) by omega,ih,List.drop_drop]
    show _=if (okR (l.drop pos) (i == 0) && zcn (i+1) _)=true then _ else _
    rw[ho,Bool.true_and,List.length_cons,show i+((zXu b (l.drop (pos+wid (l.drop pos)))).length+1)=i+1+(zXu b (l.drop (pos+wid (l.drop pos)))).length by omega]
  ·have hnil:l.drop pos=[]:=List.drop_of_length_le (by omega)
   rw[if_neg (show ¬ pos < (bsl l).size from h),if_pos hnil]
   rfl
theorem zmF(l:List UInt8):nm4 l=Seal.nmF (bsl l) (bsl l).size 0 0:=by
 have:=zlF l l.length 0 0 (Nat.zero_le _)
 rw[List.drop_zero,Nat.zero_add] at this
 rw[zQg]
 refine Eq.trans ?_ this.symm
 unfold nm4 Seal.finF
 show _=if zcn 0 (ztt l)=true then (if (((ztt l).length:Nat):Int) < 1∨(((ztt l).length:Nat):Int) > 24 then 41 else 0) else 41
 by_cases h1:(ztt l).length=0∨(ztt l).length > 24
 ·rw[if_pos h1]
  split
  ·rw[if_pos (by omega)]
  ·rfl
 ·rw[if_neg h1]
  split
  ·rw[if_neg (by omega)]
  ·rfl
end J
set_option maxRecDepth 100000
namespace J
open Go Go.Ab
variable{H:Heap}{Γ Γ0 Γ2 Δ G L:List (Nat × Blk)}{K:VH}{v w x cv dv:Value}{xs ys zs bs b key ms:List Int}{j p q o n k:Nat}{e:Int}{cs cs':List Value}{l:List UInt8}
structure Mf where
 pr:List UInt8
 ver:Nat
 sz:Int
 ck:Int
 dg:List Int
 cks:List (List Int)
abbrev By(xs:List Int):Prop:=∀ x ∈ xs,0≤x∧x≤255
structure Mf.Ok (m:Mf):Prop where
 dl:m.dg.length=32
 db:By m.dg
 cl:∀ x ∈ m.cks,x.length=32
 cb:∀ x ∈ m.cks,By x
 ver:m.ver < 18446744073709551616
 sz:-9223372036854775808≤m.sz∧m.sz≤9223372036854775807
 ck:-9223372036854775808≤m.ck∧m.ck≤9223372036854775807
 n:m.cks.length≤10000
 pl:m.pr.length≤10000
def mfC(m:Mf)(cv:Value):List Value:=str m.pr::zsb .u64 m.ver::int m.sz::int m.ck::(by8 m.dg++[cv])
abbrev hsC(l:List (List Int)):List Value:=l.flatMap by8
def RdH(Γ:List (Nat × Blk))(v:Value)(cks:List (List Int)):Prop:=
 (v=zqa∧cks=[])∨∃ (p c j:Nat) (w:Bool),v=sl p 0 cks.length c∧Γ[j]?=some (p,(⟨hsC cks,w⟩:Blk))
variable{m:Mf}{cks:List (List Int)}
theorem RdH.lenSl(h:RdH Γ v cks):lenSl v H=some (int cks.length,H):=by
 rcases h with⟨rfl,rfl⟩|⟨p,c,j,w,rfl,_⟩ <;> rfl
theorem RdH.shape(h:RdH Γ v cks):∃ a n c,v=.slice a n c:=by
 rcases h with⟨rfl,_⟩|⟨p,c,j,w,rfl,_⟩ <;> exact⟨_,_,_,rfl⟩
theorem RdH.app(h:RdH Γ v cks):RdH (Γ++Δ) v cks:=by
 rcases h with h|⟨p,c,j,w,h1,h2⟩
 ·exact .inl h
 ·exact .inr ⟨p,c,j,w,h1,zCa h2⟩
theorem RdH.app'(h:RdH Δ v cks):RdH (Γ++Δ) v cks:=by
 rcases h with h|⟨p,c,j,w,h1,h2⟩
 ·exact .inl h
 ·exact .inr ⟨p,c,Γ.length+j,w,h1,zwa h2⟩
theorem RdH.pos(h:RdH Γ v cks)(h0:0 < cks.length):∃ (p c j:Nat) (w:Bool),v=sl p 0 cks.length c∧Γ[j]?=some (p,(⟨hsC cks,w⟩:Blk)):=by
 rcases h with⟨_,rfl⟩|h
 ·simp at h0
 ·exact h
theorem zra(hd:m.dg.length=32):(mfC m cv).length=37:=by simp[mfC,hd]
theorem zIe(hd:m.dg.length=32):(mfC m cv)[0+36]?=some cv:=by
 show (by8 m.dg++[cv])[32]?=_
 rw[List.getElem?_append_right (by simp[hd])]
 simp[hd]
theorem ztb(hc:oneCell cv=true):(mfC m cv).all oneCell=true:=by
 show (true && (true && (true && (true && (by8 m.dg++[cv]).all oneCell))))=true
 rw[List.all_append,zad]
 simp[hc]
theorem zbe(hc:zab cv=true):(mfC m cv).all zab=true:=by
 show (true && (true && (true && (true && (by8 m.dg++[cv]).all zab))))=true
 rw[List.all_append,zae]
 simp[hc]
theorem RdH.one(h:RdH Γ v cks):oneCell v=true:=by obtain⟨a,n,c,rfl⟩:=h.shape; rfl
theorem RdH.simple(h:RdH Γ v cks):zab v=true:=by
 rcases h with⟨rfl,_⟩|⟨p,c,j,w,rfl,_⟩ <;> rfl
theorem zye:zza (agg (mfC m cv))=mfC m cv:=rfl
def cnt(s c:Int):Int:=if s < 1∨c < 1 then 0 else (s - 1) / c+1
theorem zdn{s c:Int}:0≤cnt s c:=by
 unfold cnt
 split
 ·omega
 ·have:=Int.ediv_nonneg (show 0≤s - 1 by omega) (show 0≤c by omega)
  omega
theorem zVI{s c:Nat}(hs:1≤s)(hc:1≤c):(s - 1) / c+1=s / c+(if s % c > 0 then 1 else 0):=by
 have h1:=Nat.div_add_mod s c
 have h2:=Nat.mod_lt s hc
 generalize s / c=Q at *
 generalize s % c=R at *
 subst h1
 by_cases hr:R=0
 ·subst hr
  rw[if_neg (by omega)]
  have hq:1≤Q:=by
   rcases Nat.eq_zero_or_pos Q with rfl|h
   ·simp at hs
   ·exact h
  obtain⟨t,rfl⟩:∃ t,Q=t+1:=⟨Q - 1,by omega⟩
  have:c * (t+1)+0 - 1=c * t+(c - 1):=by rw[Nat.mul_succ]; omega
  rw[this,Nat.mul_add_div (by omega),Nat.div_eq_of_lt (by omega)]
 ·rw[if_pos (by omega)]
  have:c * Q+R - 1=c * Q+(R - 1):=by omega
  rw[this,Nat.mul_add_div (by omega),Nat.div_eq_of_lt (by omega)]
theorem zKr{s c:Int}(hs:s≤9223372036854775807)(hc:c≤9223372036854775807)(hk:K (int (cnt s c)) H):wCall P zNd [int s,int c] H K:=by
 apply zWm; unfold zzk
 by_cases h1:s < 1
 ·refine zYa ?_
  repeat (first|refine oi ?_|refine ow ?_|refine wy ?_|refine wn ?_|refine wt ?_|refine wf' ?_|refine cy ?_|refine cn ?_)
  unfold cnt at hk
  rw[if_pos (.inl h1)] at hk
  exact hk
 by_cases h2:c < 1
 ·refine zYa ?_
  repeat (first|refine oi ?_|refine ow ?_|refine wy ?_|refine wn ?_|refine wt ?_|refine wf' ?_|refine cy ?_|refine cn ?_)
  unfold cnt at hk
  rw[if_pos (.inr h2)] at hk
  exact hk
 refine zxa (fun l' H'=>l'=[int s,int c]∧H=H') ?_ ?_
 ·repeat (first|refine oi ?_|refine ow ?_|refine wy ?_|refine wn ?_|refine wt ?_|refine wf' ?_|refine cy ?_|refine cn ?_)
  exact⟨(by first|rfl|trivial),(by first|rfl|trivial)⟩
 rintro l' H' ⟨rfl,rfl⟩
 try simp only[zia,zja]
 obtain⟨S,rfl⟩:∃ S:Nat,s=S:=⟨s.toNat,by omega⟩
 obtain⟨C,rfl⟩:∃ C:Nat,c=C:=⟨c.toNat,by omega⟩
 unfold cnt at hk
 rw[if_neg (by omega)] at hk
 repeat (first|refine oi ?_|refine ow ?_|refine wy ?_|refine wn ?_|refine wt ?_|refine wf' ?_|refine cy ?_|refine cn ?_)
 refine zaa (v:=int (((S - 1) / C:Nat):Int)) (by rw[show (S:Int) - 1=((S - 1:Nat):Int) by omega]; exact zct (by omega) (by omega)) ?_
 have hle:=Nat.div_le_self (S - 1) C
 rw[show ((S:Int) - 1) / C+1=(((S - 1) / C:Nat):Int)+1 by rw[show (S:Int) - 1=((S - 1:Nat):Int) by omega,Int.natCast_ediv]] at hk
 generalize (S - 1) / C=Q at *
 repeat (first|refine oi ?_|refine ow ?_|refine wy ?_|refine wn ?_|refine wt ?_|refine wf' ?_|refine cy ?_|refine cn ?_)
 exact hk
theorem zyi{s c:Int}(hs:s≤9223372036854775806)(hc:c≤9223372036854775807)(hk:K (int (cnt s c)) H):wCall P zGf [int s,int c] H K:=by
 apply zCq; unfold zzp
 by_cases h1:s < 1
 ·refine zYa ?_
  repeat (first|refine oi ?_|refine ow ?_|refine wy ?_|refine wn ?_|refine wt ?_|refine wf' ?_|refine cy ?_|refine cn ?_)
  unfold cnt at hk
  rw[if_pos (.inl h1)] at hk
  exact hk
 by_cases h2:c < 1
 ·refine zYa ?_
  repeat (first|refine oi ?_|refine ow ?_|refine wy ?_|refine wn ?_|refine wt ?_|refine wf' ?_|refine cy ?_|refine cn ?_)
  unfold cnt at hk
  rw[if_pos (.inr h2)] at hk
  exact hk
 refine zxa (fun l' H'=>l'=[int s,int c]∧H=H') ?_ ?_
 ·repeat (first|refine oi ?_|refine ow ?_|refine wy ?_|refine wn ?_|refine wt ?_|refine wf' ?_|refine cy ?_|refine cn ?_)
  exact⟨(by first|rfl|trivial),(by first|rfl|trivial)⟩
 rintro l' H' ⟨rfl,rfl⟩
 try simp only[zia,zja]
 obtain⟨S,rfl⟩:∃ S:Nat,s=S:=⟨s.toNat,by omega⟩
 obtain⟨C,rfl⟩:∃ C:Nat,c=C:=⟨c.toNat,by omega⟩
 unfold cnt at hk
 rw[if_neg (by omega)] at hk
 have hup:=zVI (s:=S) (c:=C) (by omega) (by omega)
 have hle:=Nat.div_le_self S C
 rw[show ((S:Int) - 1) / C+1=(((S - 1) / C+1:Nat):Int) by rw[show (S:Int) - 1=((S - 1:Nat):Int) by omega]; rfl,hup] at hk
 refine zaa (zct (by omega) (by omega)) ?_
 generalize S / C=Q at *
 refine zaa (zxs (by omega)) ?_
 rw[show (Int.tmod (S:Int) (C:Int))=((S % C:Nat):Int) from rfl]
 refine zaa zTb ?_
 refine zma (fun h=>?_) (fun h=>?_)
 ·rw[if_pos (by omega)] at hk
  repeat (first|refine oi ?_|refine ow ?_|refine wy ?_|refine wn ?_|refine wt ?_|refine wf' ?_|refine cy ?_|refine cn ?_)
  exact hk
 ·rw[if_neg (by omega)] at hk
  exact hk
def zfm(l:List UInt8):Int:=Seal.nmF (bsl l) (bsl l).size 0 0
def zGa(m:Mf):Prop:=zfm m.pr=0∧1≤m.ver∧m.ver≤281474976710656∧1≤m.sz∧m.sz≤65536∧64≤m.ck∧m.ck≤1024∧m.ck % 64=0∧(m.cks.length:Int)=cnt m.sz m.ck∧m.cks.length≤64
instance (m:Mf):Decidable (zGa m):=by unfold zGa; exact inferInstance
theorem zdz(hl:l.length≤1000000)(hO:St H Γ)(hk:∀ H',St H' Γ→K (int (zfm l)) H'):wCall P zhf [str l] H K:=
 zTp hl hO fun H' h=>by rw[zmF]; exact hk H' h
theorem zbH(hl:l.length≤1000000)(hk:K (int (zfm l)) H):wCall P zYi [str l] H K:=
 zmp (by rw[zQg]; omega) hk
set_option maxHeartbeats 4000000 in
theorem zNj(ok:m.Ok)(hc:RdH Γ cv m.cks)(hO:St H Γ)(hk:∀ H',St H' Γ→K (.bool (decide (zGa m))) H'):wCall P zoc [agg (mfC m cv)] H K:=by
 apply zTm; unfold zwk
 have hno:∀ {H:Heap} {Δ},St H (Γ++Δ)→¬ zGa m→K (.bool false) H:=fun h hn=>by
  have:=hk _ h.left
  rw[decide_eq_false hn] at this; exact this
 have hsz:=ok.sz
 have hck:=ok.ck
 have hv:=ok.ver
 have hl:=ok.n
 have h36:=zIe (cv:=cv) ok.dl
 rw[zye]
 refine nw hO.z ?_
 clear hO
 intro p1 H hO
 replace hO:St H (Γ++[(p1,⟨mfC m cv,true⟩)]):=hO
 refine zxa (fun l' H'=>l'=[ptr p1 0]∧H=H'∧zfm m.pr=0∧1≤m.ver∧m.ver≤281474976710656∧1≤m.sz∧m.sz≤65536∧64≤m.ck∧m.ck≤1024∧m.ck % 64=0) ?_ ?_
 ·refine zxa (fun l' H'=>l'=[ptr p1 0,.bool (decide (¬ (zfm m.pr=0∧1≤m.ver∧m.ver≤281474976710656)))]∧H=H') ?_ ?_
  ·repeat (first|refine oi ?_|refine ow ?_|refine wy ?_|refine wn ?_|refine wt ?_|refine wf' ?_|refine cy ?_|refine cn ?_|refine ld hO 0 rfl rfl ?_|refine ld hO 1 rfl rfl ?_|refine ld hO 2 rfl rfl ?_|refine ld hO 3 rfl rfl ?_|refine ld hO 4 rfl rfl ?_|refine ld hO 5 rfl rfl ?_)
   refine zbH (by have:=ok.pl; omega) ?_
   refine zaa zQa ?_
   refine zma (fun h1=>?_) (fun h1=>?_)
   ·exact⟨by rw[decide_eq_decide.2 (show zfm m.pr≠0↔¬ (zfm m.pr=0∧1≤m.ver∧m.ver≤281474976710656) by omega)],(by first|rfl|trivial)⟩
   ·repeat (first|refine oi ?_|refine ow ?_|refine wy ?_|refine wn ?_|refine wt ?_|refine wf' ?_|refine cy ?_|refine cn ?_|refine ld hO 0 rfl rfl ?_|refine ld hO 1 rfl rfl ?_|refine ld hO 2 rfl rfl ?_|refine ld hO 3 rfl rfl ?_|refine ld hO 4 rfl rfl ?_|refine ld hO 5 rfl rfl ?_)
    refine zma (fun h2=>?_) (fun h2=>?_)
    ·exact⟨by rw[decide_eq_decide.2 (show ((m.ver:Int) < 1)↔¬ (zfm m.pr=0∧1≤m.ver∧m.ver≤281474976710656) by omega)],(by first|rfl|trivial)⟩
    ·repeat (first|refine oi ?_|refine ow ?_|refine wy ?_|refine wn ?_|refine wt ?_|refine wf' ?_|refine cy ?_|refine cn ?_|refine ld hO 0 rfl rfl ?_|refine ld hO 1 rfl rfl ?_|refine ld hO 2 rfl rfl ?_|refine ld hO 3 rfl rfl ?_|refine ld hO 4 rfl rfl ?_|refine ld hO 5 rfl rfl ?_)
     exact⟨by rw[decide_eq_decide.2 (show ((281474976710656:Int) < (m.ver:Int))↔¬ (zfm m.pr=0∧1≤m.ver∧m.ver≤281474976710656) by omega)],(by first|rfl|trivial)⟩
  rintro l' H' ⟨rfl,rfl⟩
  try simp only[zia,zja]
  refine zma (fun h1=>?_) (fun h1=>?_)
  ·exact hno hO (fun h=>h1 ⟨h.1,h.2.1,h.2.2.1⟩)
  refine zxa (fun l' H'=>l'=[ptr p1 0,.bool (decide (¬ (1≤m.sz∧m.sz≤65536)))]∧H=H') ?_ ?_
  ·repeat (first|refine oi ?_|refine ow ?_|refine wy ?_|refine wn ?_|refine wt ?_|refine wf' ?_|refine cy ?_|refine cn ?_|refine ld hO 0 rfl rfl ?_|refine ld hO 1 rfl rfl ?_|refine ld hO 2 rfl rfl ?_|refine ld hO 3 rfl rfl ?_|refine ld hO 4 rfl rfl ?_|refine ld hO 5 rfl rfl ?_)
   refine zma (fun h2=>?_) (fun h2=>?_)
   ·repeat (first|refine oi ?_|refine ow ?_|refine wy ?_|refine wn ?_|refine wt ?_|refine wf' ?_|refine cy ?_|refine cn ?_|refine ld hO 0 rfl rfl ?_|refine ld hO 1 rfl rfl ?_|refine ld hO 2 rfl rfl ?_|refine ld hO 3 rfl rfl ?_|refine ld hO 4 rfl rfl ?_|refine ld hO 5 rfl rfl ?_)
    exact⟨by rw[decide_eq_true (show ¬ (1≤m.sz∧m.sz≤65536) by omega)],(by first|rfl|trivial)⟩
   ·repeat (first|refine oi ?_|refine ow ?_|refine wy ?_|refine wn ?_|refine wt ?_|refine wf' ?_|refine cy ?_|refine cn ?_|refine ld hO 0 rfl rfl ?_|refine ld hO 1 rfl rfl ?_|refine ld hO 2 rfl rfl ?_|refine ld hO 3 rfl rfl ?_|refine ld hO 4 rfl rfl ?_|refine ld hO 5 rfl rfl ?_)
    exact⟨by rw[decide_eq_decide.2 (show ((65536:Int) < m.sz)↔¬ (1≤m.sz∧m.sz≤65536) by omega)],(by first|rfl|trivial)⟩
  rintro l' H' ⟨rfl,rfl⟩
  try simp only[zia,zja]
  refine zma (fun h2=>?_) (fun h2=>?_)
  ·exact hno hO (fun h=>h2 ⟨h.2.2.2.1,h.2.2.2.2.1⟩)
  repeat (first|refine oi ?_|refine ow ?_|refine wy ?_|refine wn ?_|refine wt ?_|refine wf' ?_|refine cy ?_|refine cn ?_|refine ld hO 0 rfl rfl ?_|refine ld hO 1 rfl rfl ?_|refine ld hO 2 rfl rfl ?_|refine ld hO 3 rfl rfl ?_|refine ld hO 4 rfl rfl ?_|refine ld hO 5 rfl rfl ?_)
  refine zma (fun h3=>?_) (fun h3=>?_)
  ·repeat (first|refine oi ?_|refine ow ?_|refine wy ?_|refine wn ?_|refine wt ?_|refine wf' ?_|refine cy ?_|refine cn ?_|refine ld hO 0 rfl rfl ?_|refine ld hO 1 rfl rfl ?_|refine ld hO 2 rfl rfl ?_|refine ld hO 3 rfl rfl ?_|refine ld hO 4 rfl rfl ?_|refine ld hO 5 rfl rfl ?_)
   exact hno hO (fun h=>by have:=h.2.2.2.2.2.1; omega)
  repeat (first|refine oi ?_|refine ow ?_|refine wy ?_|refine wn ?_|refine wt ?_|refine wf' ?_|refine cy ?_|refine cn ?_|refine ld hO 0 rfl rfl ?_|refine ld hO 1 rfl rfl ?_|refine ld hO 2 rfl rfl ?_|refine ld hO 3 rfl rfl ?_|refine ld hO 4 rfl rfl ?_|refine ld hO 5 rfl rfl ?_)
  refine zma (fun h4=>?_) (fun h4=>?_)
  ·repeat (first|refine oi ?_|refine ow ?_|refine wy ?_|refine wn ?_|refine wt ?_|refine wf' ?_|refine cy ?_|refine cn ?_|refine ld hO 0 rfl rfl ?_|refine ld hO 1 rfl rfl ?_|refine ld hO 2 rfl rfl ?_|refine ld hO 3 rfl rfl ?_|refine ld hO 4 rfl rfl ?_|refine ld hO 5 rfl rfl ?_)
   exact hno hO (fun h=>by have:=h.2.2.2.2.2.2.1; omega)
  repeat (first|refine oi ?_|refine ow ?_|refine wy ?_|refine wn ?_|refine wt ?_|refine wf' ?_|refine cy ?_|refine cn ?_|refine ld hO 0 rfl rfl ?_|refine ld hO 1 rfl rfl ?_|refine ld hO 2 rfl rfl ?_|refine ld hO 3 rfl rfl ?_|refine ld hO 4 rfl rfl ?_|refine ld hO 5 rfl rfl ?_)
  have em:m.ck.tmod 64=m.ck % 64:=Int.tmod_eq_emod_of_nonneg (by omega)
  refine zaa (zxs (by omega)) ?_
  rw[em]
  repeat (first|refine oi ?_|refine ow ?_|refine wy ?_|refine wn ?_|refine wt ?_|refine wf' ?_|refine cy ?_|refine cn ?_|refine ld hO 0 rfl rfl ?_|refine ld hO 1 rfl rfl ?_|refine ld hO 2 rfl rfl ?_|refine ld hO 3 rfl rfl ?_|refine ld hO 4 rfl rfl ?_|refine ld hO 5 rfl rfl ?_)
  refine zma (fun h5=>?_) (fun h5=>?_)
  ·exact hno hO (fun h=>h5 h.2.2.2.2.2.2.2.1)
  ·refine⟨(by first|rfl|trivial),(by first|rfl|trivial),?_⟩
   omega
 rintro l' H' ⟨rfl,rfl,g1,g2,g3,g4,g5,g6,g7,g8⟩
 try simp only[zia,zja]
 refine zaa zba ?_
 refine ld hO 0 rfl h36 ?_
 refine zva hc.lenSl ?_
 repeat (first|refine oi ?_|refine ow ?_|refine wy ?_|refine wn ?_|refine wt ?_|refine wf' ?_|refine cy ?_|refine cn ?_|refine ld hO 0 rfl rfl ?_|refine ld hO 1 rfl rfl ?_|refine ld hO 2 rfl rfl ?_|refine ld hO 3 rfl rfl ?_|refine ld hO 4 rfl rfl ?_|refine ld hO 5 rfl rfl ?_)
 refine zKr (by omega) (by omega) ?_
 refine⟨zcb hO (Γ.length+0) (zwa rfl) hO (Γ.length+0) (zwa rfl) (zbe hc.simple),?_⟩
 refine zaa zUa ?_
 refine zma (fun h6=>?_) (fun h6=>?_)
 ·refine zaa zba ?_
  refine ld hO 0 rfl h36 ?_
  refine zva hc.lenSl ?_
  refine zaa zjw ?_
  refine zaa (zjb h6) ?_
  have:=hk _ hO.left
  rw[decide_eq_decide.2 (show zGa m↔((m.cks.length:Int)≤64) from⟨fun h=>by have:=h.2.2.2.2.2.2.2.2.2; omega,fun h=>⟨g1,g2,g3,g4,g5,g6,g7,g8,h6,by omega⟩⟩)] at this
  exact this
 ·refine zaa (zWa h6) ?_
  exact hno hO (fun h=>h6 h.2.2.2.2.2.2.2.2.1)
set_option maxHeartbeats 4000000 in
theorem zWc(ok:m.Ok)(hc:RdH Γ cv m.cks)(hO:St H Γ)(hk:∀ H',St H' Γ→K (.bool (decide (zGa m))) H'):wCall P zNc [agg (mfC m cv)] H K:=by
 apply zxq; unfold zsp
 have hno:∀ {H:Heap} {Δ},St H (Γ++Δ)→¬ zGa m→K (.bool false) H:=fun h hn=>by
  have:=hk _ h.left
  rw[decide_eq_false hn] at this; exact this
 have hsz:=ok.sz
 have hck:=ok.ck
 have hv:=ok.ver
 have hl:=ok.n
 have h36:=zIe (cv:=cv) ok.dl
 rw[zye]
 refine nw hO.z ?_
 clear hO
 intro p1 H hO
 replace hO:St H (Γ++[(p1,⟨mfC m cv,true⟩)]):=hO
 refine zxa (fun l' H'=>l'=[ptr p1 0]∧St H' (Γ++[(p1,⟨mfC m cv,true⟩)])∧zfm m.pr=0∧1≤m.ver∧m.ver≤281474976710656∧1≤m.sz∧m.sz≤65536) ?_ ?_
 ·repeat (first|refine oi ?_|refine ow ?_|refine wy ?_|refine wn ?_|refine wt ?_|refine wf' ?_|refine cy ?_|refine cn ?_|refine ld hO 0 rfl rfl ?_|refine ld hO 1 rfl rfl ?_|refine ld hO 2 rfl rfl ?_|refine ld hO 3 rfl rfl ?_|refine ld hO 4 rfl rfl ?_|refine ld hO 5 rfl rfl ?_)
  refine zdz (by have:=ok.pl; omega) hO ?_
  clear hO
  intro H hO
  refine zaa zQa ?_
  refine zma (fun h1=>?_) (fun h1=>?_)
  ·repeat (first|refine oi ?_|refine ow ?_|refine wy ?_|refine wn ?_|refine wt ?_|refine wf' ?_|refine cy ?_|refine cn ?_|refine ld hO 0 rfl rfl ?_|refine ld hO 1 rfl rfl ?_|refine ld hO 2 rfl rfl ?_|refine ld hO 3 rfl rfl ?_|refine ld hO 4 rfl rfl ?_|refine ld hO 5 rfl rfl ?_)
   exact hno hO (fun h=>h1 h.1)
  repeat (first|refine oi ?_|refine ow ?_|refine wy ?_|refine wn ?_|refine wt ?_|refine wf' ?_|refine cy ?_|refine cn ?_|refine ld hO 0 rfl rfl ?_|refine ld hO 1 rfl rfl ?_|refine ld hO 2 rfl rfl ?_|refine ld hO 3 rfl rfl ?_|refine ld hO 4 rfl rfl ?_|refine ld hO 5 rfl rfl ?_)
  refine zma (fun h2=>?_) (fun h2=>?_)
  ·repeat (first|refine oi ?_|refine ow ?_|refine wy ?_|refine wn ?_|refine wt ?_|refine wf' ?_|refine cy ?_|refine cn ?_|refine ld hO 0 rfl rfl ?_|refine ld hO 1 rfl rfl ?_|refine ld hO 2 rfl rfl ?_|refine ld hO 3 rfl rfl ?_|refine ld hO 4 rfl rfl ?_|refine ld hO 5 rfl rfl ?_)
   exact hno hO (fun h=>by have:=h.2.1; omega)
  repeat (first|refine oi ?_|refine ow ?_|refine wy ?_|refine wn ?_|refine wt ?_|refine wf' ?_|refine cy ?_|refine cn ?_|refine ld hO 0 rfl rfl ?_|refine ld hO 1 rfl rfl ?_|refine ld hO 2 rfl rfl ?_|refine ld hO 3 rfl rfl ?_|refine ld hO 4 rfl rfl ?_|refine ld hO 5 rfl rfl ?_)
  refine zma (fun h3=>?_) (fun h3=>?_)
  ·repeat (first|refine oi ?_|refine ow ?_|refine wy ?_|refine wn ?_|refine wt ?_|refine wf' ?_|refine cy ?_|refine cn ?_|refine ld hO 0 rfl rfl ?_|refine ld hO 1 rfl rfl ?_|refine ld hO 2 rfl rfl ?_|refine ld hO 3 rfl rfl ?_|refine ld hO 4 rfl rfl ?_|refine ld hO 5 rfl rfl ?_)
   exact hno hO (fun h=>by have:=h.2.2.1; omega)
  repeat (first|refine oi ?_|refine ow ?_|refine wy ?_|refine wn ?_|refine wt ?_|refine wf' ?_|refine cy ?_|refine cn ?_|refine ld hO 0 rfl rfl ?_|refine ld hO 1 rfl rfl ?_|refine ld hO 2 rfl rfl ?_|refine ld hO 3 rfl rfl ?_|refine ld hO 4 rfl rfl ?_|refine ld hO 5 rfl rfl ?_)
  refine zma (fun h4=>?_) (fun h4=>?_)
  ·repeat (first|refine oi ?_|refine ow ?_|refine wy ?_|refine wn ?_|refine wt ?_|refine wf' ?_|refine cy ?_|refine cn ?_|refine ld hO 0 rfl rfl ?_|refine ld hO 1 rfl rfl ?_|refine ld hO 2 rfl rfl ?_|refine ld hO 3 rfl rfl ?_|refine ld hO 4 rfl rfl ?_|refine ld hO 5 rfl rfl ?_)
   exact hno hO (fun h=>by have:=h.2.2.2.1; omega)
  repeat (first|refine oi ?_|refine ow ?_|refine wy ?_|refine wn ?_|refine wt ?_|refine wf' ?_|refine cy ?_|refine cn ?_|refine ld hO 0 rfl rfl ?_|refine ld hO 1 rfl rfl ?_|refine ld hO 2 rfl rfl ?_|refine ld hO 3 rfl rfl ?_|refine ld hO 4 rfl rfl ?_|refine ld hO 5 rfl rfl ?_)
  refine zma (fun h5=>?_) (fun h5=>?_)
  ·exact hno hO (fun h=>by have:=h.2.2.2.2.1; omega)
  ·exact⟨rfl,hO,by omega⟩
 clear hO
 rintro l' H ⟨rfl,hO,g1,g2,g3,g4,g5⟩
 try simp only[zia,zja]
 refine zxa (fun l' H'=>l'=[ptr p1 0]∧H=H'∧64≤m.ck∧m.ck≤1024∧m.ck % 64=0) ?_ ?_
 ·repeat (first|refine oi ?_|refine ow ?_|refine wy ?_|refine wn ?_|refine wt ?_|refine wf' ?_|refine cy ?_|refine cn ?_|refine ld hO 0 rfl rfl ?_|refine ld hO 1 rfl rfl ?_|refine ld hO 2 rfl rfl ?_|refine ld hO 3 rfl rfl ?_|refine ld hO 4 rfl rfl ?_|refine ld hO 5 rfl rfl ?_)
  refine zma (fun h3=>?_) (fun h3=>?_)
  ·repeat (first|refine oi ?_|refine ow ?_|refine wy ?_|refine wn ?_|refine wt ?_|refine wf' ?_|refine cy ?_|refine cn ?_|refine ld hO 0 rfl rfl ?_|refine ld hO 1 rfl rfl ?_|refine ld hO 2 rfl rfl ?_|refine ld hO 3 rfl rfl ?_|refine ld hO 4 rfl rfl ?_|refine ld hO 5 rfl rfl ?_)
   exact hno hO (fun h=>by have:=h.2.2.2.2.2.1; omega)
  repeat (first|refine oi ?_|refine ow ?_|refine wy ?_|refine wn ?_|refine wt ?_|refine wf' ?_|refine cy ?_|refine cn ?_|refine ld hO 0 rfl rfl ?_|refine ld hO 1 rfl rfl ?_|refine ld hO 2 rfl rfl ?_|refine ld hO 3 rfl rfl ?_|refine ld hO 4 rfl rfl ?_|refine ld hO 5 rfl rfl ?_)
  refine zma (fun h4=>?_) (fun h4=>?_)
  ·repeat (first|refine oi ?_|refine ow ?_|refine wy ?_|refine wn ?_|refine wt ?_|refine wf' ?_|refine cy ?_|refine cn ?_|refine ld hO 0 rfl rfl ?_|refine ld hO 1 rfl rfl ?_|refine ld hO 2 rfl rfl ?_|refine ld hO 3 rfl rfl ?_|refine ld hO 4 rfl rfl ?_|refine ld hO 5 rfl rfl ?_)
   exact hno hO (fun h=>by have:=h.2.2.2.2.2.2.1; omega)
  repeat (first|refine oi ?_|refine ow ?_|refine wy ?_|refine wn ?_|refine wt ?_|refine wf' ?_|refine cy ?_|refine cn ?_|refine ld hO 0 rfl rfl ?_|refine ld hO 1 rfl rfl ?_|refine ld hO 2 rfl rfl ?_|refine ld hO 3 rfl rfl ?_|refine ld hO 4 rfl rfl ?_|refine ld hO 5 rfl rfl ?_)
  have em:m.ck.tmod 64=m.ck % 64:=Int.tmod_eq_emod_of_nonneg (by omega)
  refine zaa (zxs (by omega)) ?_
  rw[em]
  repeat (first|refine oi ?_|refine ow ?_|refine wy ?_|refine wn ?_|refine wt ?_|refine wf' ?_|refine cy ?_|refine cn ?_|refine ld hO 0 rfl rfl ?_|refine ld hO 1 rfl rfl ?_|refine ld hO 2 rfl rfl ?_|refine ld hO 3 rfl rfl ?_|refine ld hO 4 rfl rfl ?_|refine ld hO 5 rfl rfl ?_)
  refine zma (fun h5=>?_) (fun h5=>?_)
  ·exact hno hO (fun h=>h5 h.2.2.2.2.2.2.2.1)
  ·refine⟨(by first|rfl|trivial),(by first|rfl|trivial),?_⟩
   omega
 rintro l' H' ⟨rfl,rfl,g6,g7,g8⟩
 try simp only[zia,zja]
 refine zaa zba ?_
 refine ld hO 0 rfl h36 ?_
 refine zva hc.lenSl ?_
 refine zaa zjw ?_
 refine zma (fun h6=>?_) (fun h6=>?_)
 ·refine zaa zba ?_
  refine ld hO 0 rfl h36 ?_
  refine zva hc.lenSl ?_
  repeat (first|refine oi ?_|refine ow ?_|refine wy ?_|refine wn ?_|refine wt ?_|refine wf' ?_|refine cy ?_|refine cn ?_|refine ld hO 0 rfl rfl ?_|refine ld hO 1 rfl rfl ?_|refine ld hO 2 rfl rfl ?_|refine ld hO 3 rfl rfl ?_|refine ld hO 4 rfl rfl ?_|refine ld hO 5 rfl rfl ?_)
  refine zyi (by omega) (by omega) ?_
  refine⟨zcb hO (Γ.length+0) (zwa rfl) hO (Γ.length+0) (zwa rfl) (zbe hc.simple),?_⟩
  refine zaa zUa ?_
  refine zaa (zjb h6) ?_
  have:=hk _ hO.left
  rw[decide_eq_decide.2 (show zGa m↔((m.cks.length:Int)=cnt m.sz m.ck) from⟨fun h=>h.2.2.2.2.2.2.2.2.1,fun h=>⟨g1,g2,g3,g4,g5,g6,g7,g8,h,by omega⟩⟩)] at this
  exact this
 ·refine zaa (zWa h6) ?_
  exact hno hO (fun h=>by have:=h.2.2.2.2.2.2.2.2.2; omega)
end J
set_option maxRecDepth 100000
namespace J
open Go Go.Ab
variable{H:Heap}{Γ Γ0 Γ2 Δ G L:List (Nat × Blk)}{K:VH}{v w x cv dv:Value}{xs ys zs bs b key ms:List Int}{j p q o n k:Nat}{e:Int}{cs cs':List Value}{l:List UInt8}{m:Mf}{cks:List (List Int)}
def ub(l:List UInt8):List Int:=l.map fun b=>(b.toNat:Int)
theorem zEk:(ub l).length=l.length:=by simp[ub]
theorem zmK:By (ub l):=by
 intro x hx
 obtain⟨b,_,rfl⟩:=List.mem_map.1 hx
 have:=b.toNat_lt
 omega
theorem zWI:l.map zRg=by8 (ub l):=by simp[by8,ub,zRg]
theorem zTB(xs:List Int)(h:By xs):ub (xs.map fun n=>UInt8.ofNat n.toNat)=xs:=by
 unfold ub
 rw[List.map_map]
 conv=>rhs; rw[← List.map_id xs]
 refine List.map_congr_left fun x hx=>?_
 have:=h x hx
 show ((UInt8.ofNat x.toNat).toNat:Int)=x
 rw[UInt8.toNat_ofNat',Nat.mod_eq_of_lt (by omega)]
 omega
theorem zez(hO:St H Γ)(hk:∀ H' v',St H' (Γ++zKa v' (by8 (ub l)))→OwnB v' (ub l) (by8 (ub l))→K v' H'):opW (zJe (str l) H) K:=by
 refine zDa hO (show zJe (str l) H=some (sl H.next 0 l.length 2,H.push (by8 (ub l))) from ?_) ?_
 ·show zzb (l.map zRg) (zmf l) 2 H=_
  rw[zWI,zLa]; rfl
 ·intro p H' hO'
  refine hk _ _ hO' (.inr ⟨p,.inl (by rw[zEk]),?_,by simp[by8],zae _⟩)
  exact List.take_of_length_le (by simp[by8])
def txB(l:List UInt8):List Int:=leN 2 l.length++ub l
theorem zYK(n:Nat):leN 2 n=[((n % 256:Nat):Int),((n / 256 % 256:Nat):Int)]:=by simp[leN,List.range_succ]
theorem znK{n:Nat}:zSb .u8 (int n) H=some (zsb .u8 (n % 256),H):=by
 show some (Value.int .u8 (zxc .u8 (n:Int)),H)=_
 rw[zlh rfl]; rfl
theorem zUp(hO:St H Γ)(hl:l.length≤1000000)(hk:MadeB Γ K (txB l)):wCall P zVi [str l] H K:=by
 apply zQs; unfold zwr
 refine zva zft ?_
 refine zva (zLH (by omega) (by omega)) ?_
 rw[Int.toNat_natCast]
 refine zVc (size:=2) hO (by omega) (by omega) ?_
 clear hO
 intro H v1 c1 hO hv1
 refine zez hO ?_
 clear hO
 intro H v2 hO hv2
 refine zSe hO hv1 hv2 (by rw[zqd,zEk]; omega) ?_
 exact hk
def zOb(m:Mf):List Int:=if zGa m then txB m.pr++leN 8 m.ver++leN 4 m.sz.toNat++leN 2 m.ck.toNat++m.dg++m.cks.flatten else []
theorem zYu(hd:m.dg.length=32):((mfC m cv).drop 4).take 32=by8 m.dg:=by
 show (by8 m.dg++[cv]).take 32=_
 rw[List.take_append_of_le_length (by simp[hd]),List.take_of_length_le (by simp[hd])]
theorem zUB(h:∀ x ∈ cks,x.length=32){y:Nat}(hy:y < cks.length):((hsC cks).drop (0+(y:Int).toNat * 32)).take 32=by8 cks[y]:=by
 rw[show 0+(y:Int).toNat * 32=y * 32+0 by omega]
 rw[zsw (f:=by8) (n:=32) (fun x hx=>by rw[zii]; exact h x hx) hy (by omega),List.drop_zero]
 exact List.take_of_length_le (by simp[h _ (List.getElem_mem hy)])
theorem zVB:∀ (l:List (List Int)),(∀ x ∈ l,x.length=32)→l.flatten.length=l.length * 32
 | [],_=>rfl
 | a::l,h=>by
  have h1:=zVB l fun x hx=>h x (List.mem_cons_of_mem _ hx)
  have h2:=h a List.mem_cons_self
  rw[List.flatten_cons,List.length_append,h1,h2,List.length_cons]; omega
set_option maxHeartbeats 2000000 in
theorem zrf(ok:m.Ok)(hc:RdH Γ cv m.cks)(hO:St H Γ)(hk:MadeB Γ K (zOb m)):wCall P zme [agg (mfC m cv)] H K:=by
 apply zyq; unfold ztp
 have h36:=zIe (cv:=cv) ok.dl
 have hpl:=ok.pl
 have hver:=ok.ver
 rw[zye]
 refine nw hO.z ?_
 clear hO
 intro p1 H hO
 replace hO:St H (Γ++[(p1,⟨mfC m cv,true⟩)]):=hO
 refine zDa hO (zYl _) ?_
 clear hO
 intro q6 H hO
 replace hO:=hO.as
 refine lw hO 0 rfl (zra ok.dl) (by omega) ?_
 refine zWc ok hc.app hO ?_
 clear hO
 intro H hO
 refine zaa zGc ?_
 have hv6:OwnB (sl q6 0 0 3) [] []:=.inr ⟨q6,.inr ⟨rfl,rfl⟩,rfl,Nat.zero_le _,rfl⟩
 replace hO:St H (Γ++([(p1,⟨mfC m cv,true⟩)]++zKa (sl q6 0 0 3) [])):=hO
 rw[← List.append_assoc] at hO
 unfold zOb at hk
 by_cases hr:zGa m
 ·rw[if_pos hr] at hk
  have hr':=hr
  obtain⟨_,g2,g3,g4,g5,g6,g7,_,_,g10⟩:=hr'
  rw[decide_eq_true hr]
  refine zDb rfl ?_
  refine zaa zba ?_
  refine zoa hO (Γ.length+0) (zCa (zwa rfl)) (v:=str m.pr) rfl ?_
  refine zUp hO (by omega) ?_
  clear hO
  intro H v1 c1 hO hv1
  refine zSe hO hv6 hv1 (by simp[txB,zqd,zEk]; omega) ?_
  clear hO hv6 hv1
  intro H v2 c2 hO hv2
  rw[List.nil_append] at hv2
  refine zaa zba ?_
  refine zoa hO (Γ.length+0) (zCa (zwa rfl)) (v:=zsb .u64 m.ver) rfl ?_
  refine zVc (size:=8) hO (by omega) (by omega) ?_
  clear hO
  intro H v1 c1 hO hv1
  refine zSe hO hv2 hv1 (by simp[txB,zqd,zEk]; omega) ?_
  clear hO hv2 hv1
  intro H v2 c2 hO hv2
  refine zaa zba ?_
  refine zoa hO (Γ.length+0) (zCa (zwa rfl)) (v:=int m.sz) rfl ?_
  refine zva (zLH (by omega) (by omega)) ?_
  refine zVc (size:=4) hO (by omega) (by omega) ?_
  clear hO
  intro H v1 c1 hO hv1
  refine zSe hO hv2 hv1 (by simp[txB,zqd,zEk]; omega) ?_
  clear hO hv2 hv1
  intro H v2 c2 hO hv2
  refine zaa zba ?_
  refine zoa hO (Γ.length+0) (zCa (zwa rfl)) (v:=int m.ck) rfl ?_
  refine zva (zLH (by omega) (by omega)) ?_
  refine zVc (size:=2) hO (by omega) (by omega) ?_
  clear hO
  intro H v1 c1 hO hv1
  refine zSe hO hv2 hv1 (by simp[txB,zqd,zEk]; omega) ?_
  clear hO hv2 hv1
  intro H v6 c6 hO hv6
  refine zaa zba ?_
  refine zaa (zUf hO (Γ.length+0) (zCa (zwa rfl)) (by omega) (by show 0+4+32≤(mfC m cv).length; rw[zra ok.dl]; omega)) ?_
  refine zEc hO hv6 (ys:=m.dg) (.inr ⟨p1,0+4,3,by rw[ok.dl],.inr rfl,.inr ⟨Γ.length+0,_,zwa rfl,by rw[ok.dl]; exact zYu ok.dl⟩⟩) (by simp[txB,zqd,zEk,ok.dl]; omega) ?_
  clear hO
  intro H v7 c7 hO hv7
  refine zaa zba ?_
  refine zoa hO (Γ.length+0) (zCa (zwa rfl)) h36 ?_
  refine zva hc.lenSl ?_
  replace hO:St H (Γ++zKa v7 c7):=St.mid hO
  refine zEl (fun k l' H'=>∃ (y:Nat) (v8:Value) (c8:List Value),y≤m.cks.length∧k=m.cks.length - y∧l'=[zqa,v8,cv,int m.cks.length,int y]∧St H' (Γ++zKa v8 c8)∧OwnB v8 (txB m.pr++leN 8 m.ver++leN 4 m.sz.toNat++leN 2 m.ck.toNat++m.dg++(m.cks.take y).flatten) c8) _ _ ?_ m.cks.length _ _ ⟨0,v7,c7,by omega,by omega,rfl,hO,by simpa using hv7⟩
  clear hO hv7
  rintro k l' H ⟨y,v8,c8,hy,rfl,rfl,hO,hv8⟩
  unfold zqk
  try simp only[zia,zja]
  refine zaa zMa ?_
  refine zma (fun h=>?_) (fun h=>?_)
  ·have hy:y < m.cks.length:=by omega
   obtain⟨pc,cc,jc,wc,rfl,hj⟩:=hc.pos (by omega)
   refine zaa (zqb (by omega) (by omega)) ?_
   have hcy:=ok.cl _ (List.getElem_mem hy)
   refine zua hO jc (zCa hj) (zUB ok.cl hy) (by simp[hcy]) (by omega) ?_
   rw[zQu]
   refine zeb hO ?_
   clear hO
   intro q9 H hO
   refine zya hO (_+0) (zwa rfl) (by simp) (by simp[hcy]) (zad _) ?_
   clear hO
   intro H hO
   replace hO:=hO.set_r
   refine zaa (zUf hO (_+0) (zwa rfl) (by omega) (by simp[hcy])) ?_
   refine zwd (ys:=m.cks[y]) hO hv8 (by
    have h1:=zVB (m.cks.take y) fun x hx=>ok.cl x (List.mem_of_mem_take hx)
    rw[List.length_take] at h1
    have:=ok.n
    simp only[List.length_append,txB,zqd,zEk,ok.dl,h1,hcy]; omega) hcy.symm (.inr rfl) ?_
   clear hO
   intro H v9 c9 hO hv9
   repeat (first|refine oi ?_|refine ow ?_|refine wy ?_|refine wn ?_|refine wt ?_|refine wf' ?_|refine cy ?_|refine cn ?_)
   refine⟨m.cks.length - (y+1),by omega,y+1,v9,c9,by omega,rfl,rfl,hO,?_⟩
   rw[zzB hy,← List.append_assoc]; exact hv9
  ·have e:y=m.cks.length:=by omega
   subst e
   rw[List.take_of_length_le (Nat.le_refl _)] at hv8
   exact hk H v8 c8 hO hv8
 ·rw[if_neg hr] at hk
  rw[decide_eq_false hr]
  refine zvd rfl ?_
  exact hk H _ [] (St.mid hO) hv6
end J
set_option maxRecDepth 100000
namespace J
open Go Go.Ab
variable{H:Heap}{Γ Γ0 Γ2 Δ G L:List (Nat × Blk)}{K:VH}{v w x cv dv:Value}{xs ys zs bs b key ms:List Int}{j p q o n k:Nat}{e:Int}{cs cs':List Value}{l:List UInt8}{m a:Mf}{cks:List (List Int)}
def kH:List CK:=List.replicate 32 (.i .u8)
theorem fH:flatK P 100 49=some kH:=by kernel_rfl
theorem zQJ{s:List Int}(h:s.length=32):Fit kH (by8 s):=by
 have:=zBB s
 rw[h] at this; exact this
theorem eqH{a b:List Int}(c:Bool)(ha:a.length=32)(hb:b.length=32):(zpa P .eql 49 c).f (agg (by8 a)) (agg (by8 b))=some (.bool (decide (a=b))):=by
 rw[zfB fH (by kernel_rfl) (by kernel_rfl) (zQJ ha) (zQJ hb),zYk]
theorem neH{a b:List Int}(c:Bool)(ha:a.length=32)(hb:b.length=32):(zpa P .neq 49 c).f (agg (by8 a)) (agg (by8 b))=some (.bool (decide (a≠b))):=by
 rw[zgB fH (by kernel_rfl) (by kernel_rfl) (zQJ ha) (zQJ hb),zYk]
 simp
def zGw(a b:Mf):Prop:=a.pr=b.pr∧a.ver=b.ver∧a.sz=b.sz∧a.ck=b.ck∧a.dg=b.dg∧a.cks=b.cks
instance (a b:Mf):Decidable (zGw a b):=by unfold zGw; exact inferInstance
theorem zVp{a b:Mf}:zGw a b↔a=b:=by
 constructor
 ·intro h
  obtain⟨p,v,s,c,d,k⟩:=a
  obtain⟨p',v',s',c',d',k'⟩:=b
  obtain⟨h1,h2,h3,h4,h5,h6⟩:=h
  cases h1; cases h2; cases h3; cases h4; cases h5; cases h6; rfl
 ·rintro rfl; exact⟨rfl,rfl,rfl,rfl,rfl,rfl⟩
theorem zWB{a b:List UInt8}:(a == b)=decide (a=b):=by
 rw[Bool.eq_iff_iff]; simp
theorem zTx{l m:List UInt8}(t:TypeId)(c:Bool):(zpa P .neq t c).f (str l) (str m)=some (.bool (decide (l≠m))):=by
 rw[zXG,zWB]; simp
theorem zZu{α:Type}{a b:List α}{y:Nat}(ha:y < a.length)(hb:y < b.length):a.drop y=b.drop y↔a[y]=b[y]∧a.drop (y+1)=b.drop (y+1):=by
 rw[List.drop_eq_getElem_cons ha,List.drop_eq_getElem_cons hb,List.cons.injEq]
set_option maxHeartbeats 4000000 in
theorem zav{b:Mf}(oka:a.Ok)(okb:b.Ok)(ha:RdH Γ cv a.cks)(hb:RdH Γ dv b.cks)(hO:St H Γ)(hk:∀ H',St H' Γ→K (.bool (decide (zGw a b))) H'):wCall P zUd [agg (mfC a cv),agg (mfC b dv)] H K:=by
 apply zIs; unfold zor
 have a36:=zIe (m:=a) (cv:=cv) oka.dl
 have b36:=zIe (m:=b) (cv:=dv) okb.dl
 have hno:∀ {H:Heap} {Δ},St H (Γ++Δ)→¬ zGw a b→K (.bool false) H:=fun h hn=>by
  have:=hk _ h.left
  rw[decide_eq_false hn] at this; exact this
 rw[zye]
 refine nw hO.z ?_
 clear hO
 intro p2 H hO
 rw[zye]
 refine nw hO ?_
 clear hO
 intro p3 H hO
 replace hO:St H (Γ++[(p2,⟨mfC a cv,true⟩),(p3,⟨mfC b dv,true⟩)]):=hO
 refine zxa (fun l' H'=>l'=[ptr p2 0,ptr p3 0,.bool false]∧H=H'∧(a.pr=b.pr∧a.ver=b.ver∧a.sz=b.sz∧a.ck=b.ck∧a.dg=b.dg)∧a.cks.length=b.cks.length) ?_ ?_
 ·refine zaa zba ?_
  refine ld hO 0 rfl (v:=str a.pr) rfl ?_
  refine zaa zba ?_
  refine ld hO 1 rfl (v:=str b.pr) rfl ?_
  refine zaa (zTx _ _) ?_
  refine zma (fun h1=>?_) (fun h1=>?_)
  ·repeat (first|refine oi ?_|refine ow ?_|refine wy ?_|refine wn ?_|refine wt ?_|refine wf' ?_|refine cy ?_|refine cn ?_|refine ld hO 0 rfl rfl ?_|refine ld hO 1 rfl rfl ?_|refine ld hO 2 rfl rfl ?_|refine ld hO 3 rfl rfl ?_|refine ld hO 4 rfl rfl ?_|refine ld hO 5 rfl rfl ?_)
   exact hno hO (fun h=>h1 h.1)
  refine zaa zba ?_
  refine ld hO 0 rfl rfl ?_
  refine zaa zba ?_
  refine ld hO 1 rfl rfl ?_
  refine zaa zQa ?_
  refine zaa (zWa h1) ?_
  refine zma (fun h2=>?_) (fun h2=>?_)
  ·repeat (first|refine oi ?_|refine ow ?_|refine wy ?_|refine wn ?_|refine wt ?_|refine wf' ?_|refine cy ?_|refine cn ?_|refine ld hO 0 rfl rfl ?_|refine ld hO 1 rfl rfl ?_|refine ld hO 2 rfl rfl ?_|refine ld hO 3 rfl rfl ?_|refine ld hO 4 rfl rfl ?_|refine ld hO 5 rfl rfl ?_)
   exact hno hO (fun h=>h2 (by rw[h.2.1]))
  refine zaa zba ?_
  refine ld hO 0 rfl rfl ?_
  refine zaa zba ?_
  refine ld hO 1 rfl rfl ?_
  refine zaa zQa ?_
  refine zaa (zWa h2) ?_
  refine zma (fun h3=>?_) (fun h3=>?_)
  ·repeat (first|refine oi ?_|refine ow ?_|refine wy ?_|refine wn ?_|refine wt ?_|refine wf' ?_|refine cy ?_|refine cn ?_|refine ld hO 0 rfl rfl ?_|refine ld hO 1 rfl rfl ?_|refine ld hO 2 rfl rfl ?_|refine ld hO 3 rfl rfl ?_|refine ld hO 4 rfl rfl ?_|refine ld hO 5 rfl rfl ?_)
   exact hno hO (fun h=>h3 h.2.2.1)
  refine zaa zba ?_
  refine ld hO 0 rfl rfl ?_
  refine zaa zba ?_
  refine ld hO 1 rfl rfl ?_
  refine zaa zQa ?_
  refine zaa (zWa h3) ?_
  refine zma (fun h4=>?_) (fun h4=>?_)
  ·repeat (first|refine oi ?_|refine ow ?_|refine wy ?_|refine wn ?_|refine wt ?_|refine wf' ?_|refine cy ?_|refine cn ?_|refine ld hO 0 rfl rfl ?_|refine ld hO 1 rfl rfl ?_|refine ld hO 2 rfl rfl ?_|refine ld hO 3 rfl rfl ?_|refine ld hO 4 rfl rfl ?_|refine ld hO 5 rfl rfl ?_)
   exact hno hO (fun h=>h4 h.2.2.2.1)
  refine zaa zba ?_
  refine zua hO (Γ.length+0) (zwa rfl) (zYu oka.dl) (by simp[oka.dl]) (by omega) ?_
  refine zaa zba ?_
  refine zua hO (Γ.length+1) (zwa rfl) (zYu okb.dl) (by simp[okb.dl]) (by omega) ?_
  refine zaa (neH _ oka.dl okb.dl) ?_
  refine zaa (zWa h4) ?_
  refine zma (fun h5=>?_) (fun h5=>?_)
  ·repeat (first|refine oi ?_|refine ow ?_|refine wy ?_|refine wn ?_|refine wt ?_|refine wf' ?_|refine cy ?_|refine cn ?_|refine ld hO 0 rfl rfl ?_|refine ld hO 1 rfl rfl ?_|refine ld hO 2 rfl rfl ?_|refine ld hO 3 rfl rfl ?_|refine ld hO 4 rfl rfl ?_|refine ld hO 5 rfl rfl ?_)
   exact hno hO (fun h=>h5 h.2.2.2.2.1)
  refine zaa zba ?_
  refine ld hO 0 rfl a36 ?_
  refine zva ha.lenSl ?_
  refine zaa zba ?_
  refine ld hO 1 rfl b36 ?_
  refine zva hb.lenSl ?_
  refine zaa zQa ?_
  refine zaa (zWa h5) ?_
  refine zma (fun h6=>?_) (fun h6=>?_)
  ·exact hno hO (fun h=>h6 (by rw[h.2.2.2.2.2]))
  ·refine⟨rfl,rfl,⟨Classical.not_not.1 h1,by omega,Classical.not_not.1 h3,Classical.not_not.1 h4,Classical.not_not.1 h5⟩,by omega⟩
 rintro l' H' ⟨rfl,rfl,hs,hl⟩
 try simp only[zia,zja]
 refine zaa zba ?_
 refine ld hO 0 rfl a36 ?_
 refine zva ha.lenSl ?_
 have hiff:zGw a b↔a.cks.drop 0=b.cks.drop 0:=⟨fun h=>h.2.2.2.2.2,fun h=>⟨hs.1,hs.2.1,hs.2.2.1,hs.2.2.2.1,hs.2.2.2.2,h⟩⟩
 refine zPm (fun k l' H'=>∃ (y:Nat),y≤a.cks.length∧k=a.cks.length - y∧l'=[ptr p2 0,ptr p3 0,.bool false,int a.cks.length,int y]∧H=H'∧(zGw a b↔a.cks.drop y=b.cks.drop y)) _ _ ?_ a.cks.length _ _ ⟨0,by omega,by omega,rfl,rfl,hiff⟩
 rintro k l' H' ⟨y,hy,rfl,rfl,rfl,hi⟩
 unfold zDl
 try simp only[zia,zja]
 refine zaa zMa ?_
 refine zma (fun h=>?_) (fun h=>?_)
 ·have hy:y < a.cks.length:=by omega
  have hy2:y < b.cks.length:=by omega
  obtain⟨pa,ca,ja,wa,rfl,hja⟩:=ha.pos (by omega)
  obtain⟨pb,cb,jb,wb,rfl,hjb⟩:=hb.pos (by omega)
  have hca:=oka.cl _ (List.getElem_mem hy)
  have hcb:=okb.cl _ (List.getElem_mem hy2)
  refine zaa zba ?_
  refine ld hO 0 rfl a36 ?_
  refine zaa (zqb (by omega) (by omega)) ?_
  refine zua hO ja (zCa hja) (zUB oka.cl hy) (by simp[hca]) (by omega) ?_
  refine zaa zba ?_
  refine ld hO 1 rfl b36 ?_
  refine zaa (zqb (by omega) (by omega)) ?_
  refine zua hO jb (zCa hjb) (zUB okb.cl hy2) (by simp[hcb]) (by omega) ?_
  refine zaa (neH _ hca hcb) ?_
  rw[zZu hy hy2] at hi
  refine zma (fun h7=>?_) (fun h7=>?_)
  ·exact hno hO (fun h=>h7 (hi.1 h).1)
  ·have hn:=oka.n
   refine zaa qa ?_
   refine⟨a.cks.length - (y+1),by omega,y+1,by omega,rfl,rfl,(by first|rfl|trivial),?_⟩
   rw[hi]
   exact⟨fun h=>h.2,fun h=>⟨Classical.not_not.1 h7,h⟩⟩
 ·have e:y=a.cks.length:=by omega
  subst e
  rw[List.drop_of_length_le (Nat.le_refl _),List.drop_of_length_le (by omega)] at hi
  refine zZa rfl ?_
  have:=hk _ hO.left
  rw[decide_eq_true (hi.2 rfl)] at this; exact this
def zOz(xs:List Int)(e:Int):Int:=if e=0∧0 < xs.length then 52 else e
theorem zXB(hO:St H Γ)(hj:Γ[j]?=some (p,rdr v e))(hv:RdB Γ v xs)(hk:K (int (zOz xs e)) H):wCall P zVe [ptr p 0] H K:=by
 apply zSl; unfold zsj
 refine zaa zca ?_
 refine zaa zba ?_
 refine zoa hO j hj rfl ?_
 refine zaa zUa ?_
 unfold zOz at hk
 refine zma (fun h=>?_) (fun h=>?_)
 ·refine zaa zca ?_
  refine zaa zba ?_
  refine zoa hO j hj rfl ?_
  refine zva hv.lenSl ?_
  repeat (first|refine oi ?_|refine ow ?_|refine wy ?_|refine wn ?_|refine wt ?_|refine wf' ?_|refine cy ?_|refine cn ?_)
  refine zma (fun h2=>?_) (fun h2=>?_)
  ·rw[if_pos ⟨h,by omega⟩] at hk
   exact hk
  ·rw[if_neg (by omega)] at hk
   refine zaa zca ?_
   refine zaa zba ?_
   refine zoa hO j hj rfl ?_
   exact hk
 ·repeat (first|refine oi ?_|refine ow ?_|refine wy ?_|refine wn ?_|refine wt ?_|refine wf' ?_|refine cy ?_|refine cn ?_)
  rw[if_neg (fun h'=>h h'.1)] at hk
  refine zoa hO j hj rfl ?_
  exact hk
end J
set_option maxRecDepth 100000
namespace J
open Go Go.Ab
variable{H:Heap}{Γ Γ0 Γ2 Δ G L:List (Nat × Blk)}{K:VH}{v w x cv dv:Value}{xs ys zs bs b key ms:List Int}{j p q o n k mx:Nat}{e:Int}{cs cs':List Value}{l:List UInt8}{m a:Mf}{cks:List (List Int)}
def ob(xs:List Int):List UInt8:=xs.map fun n=>UInt8.ofNat n.toNat
theorem zoK(l:List UInt8):ob (ub l)=l:=by
 unfold ob ub
 rw[List.map_map]
 conv=>rhs; rw[← List.map_id l]
 refine List.map_congr_left fun b _=>?_
 show UInt8.ofNat ((b.toNat:Int)).toNat=b
 rw[Int.toNat_natCast]
 exact UInt8.ofNat_toNat
def tN(xs:List Int)(e:Int):Nat:=leV (tkB xs e 2)
def tYb(xs:List Int)(e:Int):List Int:=tkB (tkR xs e 2) (tkE xs e 2) (tN xs e)
def tYr(xs:List Int)(e:Int):List Int:=tkR (tkR xs e 2) (tkE xs e 2) (tN xs e)
def tYe(xs:List Int)(e:Int):Int:=tkE (tkR xs e 2) (tkE xs e 2) (tN xs e)
def zYB(xs:List Int)(e:Int)(mx:Nat):Prop:=tkE xs e 2=0∧mx < tN xs e
instance (xs:List Int) (e:Int) (mx:Nat):Decidable (zYB xs e mx):=by unfold zYB; exact inferInstance
def tXb(xs:List Int)(e:Int)(mx:Nat):List Int:=if zYB xs e mx then [] else tYb xs e
def tXr(xs:List Int)(e:Int)(mx:Nat):List Int:=if zYB xs e mx then [] else tYr xs e
def tXe(xs:List Int)(e:Int)(mx:Nat):Int:=if zYB xs e mx then 52 else tYe xs e
theorem zZB(hb:By xs)(e:Int)(n:Nat):By (tkB xs e n):=RdB.bytes hb n e
theorem zFk(hb:By xs)(e:Int)(n:Nat):By (tkR xs e n):=by
 unfold tkR
 split
 ·exact fun x hx=>hb x (List.mem_of_mem_drop hx)
 ·intro x hx; cases hx
theorem zki(xs:List Int)(e:Int)(n:Nat):(tkR xs e n).length≤xs.length:=by
 unfold tkR
 split
 ·rw[List.length_drop]; omega
 ·simp
theorem znF{k:Nat}(hb:By xs)(e:Int):leV (tkB xs e k) < 256 ^ k:=by
 have h1:=zJu (tkB xs e k) (zZB hb e k)
 have h2:=zYm xs e k
 exact Nat.lt_of_lt_of_le h1 (Nat.pow_le_pow_right (by omega) h2)
theorem zXI(hb:By xs)(e:Int):tN xs e < 65536:=znF hb e
theorem Inh.trans{v1 v2 v3:Value}{x1 x2 x3:List Int}(h1:Inh v1 x1 v2 x2)(h2:Inh v2 x2 v3 x3):Inh v1 x1 v3 x3:=fun Γ h=>h2 Γ (h1 Γ h)
set_option maxHeartbeats 2000000 in
theorem zfz(hO:St H Γ)(hj:Γ[j]?=some (p,rdr v e))(hv:RdB Γ v xs)(hb:By xs)(hx:xs.length≤1000000)
  (hk:∀ H' v2,St H' (Γ.set j (p,rdr v2 (tXe xs e mx)))→Inh v xs v2 (tXr xs e mx)→K (str (ob (tXb xs e mx))) H'):wCall P zpe [ptr p 0,int mx] H K:=by
 apply zUk; unfold zqi
 have hn:=zXI hb e
 refine zfg (k:=2) (by omega) hO hj hv hb ?_
 clear hO
 intro H v1 hO i1
 have hj1:=zHu (y:=(p,rdr v1 (tkE xs e 2))) hj
 have hv1:=i1 _ (zGr (b':=rdr v1 (tkE xs e 2)) (p':=p) hv hj (RdB.shape hv))
 rw[show leV (tkB xs e 2)=tN xs e from rfl]
 refine zva (zhB (k:=.u64) (by omega)) ?_
 refine zxa (fun l' H'=>l'=[ptr p 0,int (tN xs e),.bool (decide (zYB xs e mx))]∧H=H') ?_ ?_
 ·refine zaa zca ?_
  refine zaa zba ?_
  refine zoa hO j hj1 (v:=int (tkE xs e 2)) rfl ?_
  refine zaa zUa ?_
  refine zma (fun h=>?_) (fun h=>?_)
  ·refine zaa zTb ?_
   refine zaa (zjb h) ?_
   exact⟨by rw[decide_eq_decide.2 (show ((mx:Int) < (tN xs e:Int))↔zYB xs e mx from⟨fun h2=>⟨h,by omega⟩,fun h2=>by have:=h2.2; omega⟩)],rfl⟩
  ·refine zaa (zWa h) ?_
   exact⟨by rw[decide_eq_false (show ¬ zYB xs e mx from fun h2=>h h2.1)],rfl⟩
 rintro l' H' ⟨rfl,rfl⟩
 try simp only[zia,zja]
 unfold tXe tXr tXb at hk
 refine zma (fun h=>?_) (fun h=>?_)
 ·simp only[if_pos h] at hk
  refine zIu hO hj1 ?_
  clear hO
  intro H hO
  rw[List.set_set,if_pos h.1] at hO
  refine zZl (xs:=[]) hO (zHu hj) .nil (by omega) ?_
  clear hO
  intro H v3 v4 hO i3 i4
  rw[List.set_set] at hO
  have e1:tkE [] 52 (tN xs e)=52:=by unfold tkE; rw[if_neg (by omega),if_neg (by omega)]
  have e2:tkR [] 52 (tN xs e)=[]:=by unfold tkR; rw[if_neg (by omega)]
  have e3:tkB [] 52 (tN xs e)=[]:=by unfold tkB; rw[if_neg (by omega)]
  rw[e1] at hO
  rw[e2] at i4
  rw[e3] at i3
  refine zva (RdB.str hO (i3 _ .nil)) ?_
  exact hk H v4 hO (fun Γ _=>i4 Γ .nil)
 ·simp only[if_neg h] at hk
  refine zZl hO hj1 hv1 (by omega) ?_
  clear hO
  intro H v3 v4 hO i3 i4
  rw[List.set_set] at hO
  refine zva (RdB.str hO (i3 _ (i1 _ (zGr (b':=rdr v4 (tYe xs e)) (p':=p) hv hj (RdB.shape hv))))) ?_
  exact hk H v4 hO (i1.trans i4)
set_option maxHeartbeats 2000000 in
theorem zHw(hO:St H Γ)(hj:Γ[j]?=some (p,rdr v e))(hv:RdB Γ v xs)(hb:By xs)(hx:xs.length≤1000000)
  (hk:∀ H' v2,St H' (Γ.set j (p,rdr v2 (tYe xs e)))→Inh v xs v2 (tYr xs e)→K (str (ob (tYb xs e))) H'):wCall P zXg [ptr p 0,int (65535:Nat)] H K:=by
 apply zGp; unfold zLn
 have hn:=zXI hb e
 refine zPg (k:=2) (by omega) hO hj hv hx hb ?_
 clear hO
 intro H v1 hO i1
 have hj1:=zHu (y:=(p,rdr v1 (tkE xs e 2))) hj
 have hv1:=i1 _ (zGr (b':=rdr v1 (tkE xs e 2)) (p':=p) hv hj (RdB.shape hv))
 rw[show leV (tkB xs e 2)=tN xs e from rfl]
 refine zva (zhB (k:=.u64) (by omega)) ?_
 refine zxa (fun l' H'=>l'=[ptr p 0,int (tN xs e),.bool false]∧H=H') ?_ ?_
 ·refine zaa zca ?_
  refine zaa zba ?_
  refine zoa hO j hj1 (v:=int (tkE xs e 2)) rfl ?_
  refine zaa zUa ?_
  refine zma (fun h=>?_) (fun h=>?_)
  ·refine zaa zTb ?_
   refine zaa (zjb h) ?_
   exact⟨by rw[decide_eq_false (by omega)],rfl⟩
  ·refine zaa (zWa h) ?_
   exact⟨rfl,rfl⟩
 rintro l' H' ⟨rfl,rfl⟩
 try simp only[zia,zja]
 refine zDb rfl ?_
 have:=zki xs e 2
 refine zdh hO hj1 hv1 (by omega) (by omega) ?_
 clear hO
 intro H v4 v3 c3 hO i4 o3
 replace hO:St H ((Γ.set j (p,rdr v1 (tkE xs e 2))).set j (p,rdr v4 (tYe xs e))++zKa v3 c3):=hO
 rw[List.set_set] at hO
 refine zva (RdB.str hO o3.rd.app') ?_
 exact hk H v4 hO.left (i1.trans i4)
def z32:List Int:=List.replicate 32 0
def hsh(xs:List Int)(e:Int):List Int:=if e=0∧32≤xs.length then xs.take 32 else z32
theorem zbd:(hsh xs e).length=32:=by
 unfold hsh
 split
 ·rw[List.length_take]; omega
 ·rfl
theorem zoF(hb:By xs):By (hsh xs e):=by
 unfold hsh
 split
 ·exact fun x hx=>hb x (List.mem_of_mem_take hx)
 ·exact zPu
theorem zcH:zc P 49=by8 z32:=by kernel_rfl
theorem bH0:(zAa P 49).f []=some (agg (by8 z32)):=by kernel_rfl
theorem zvE:(by8 z32).take 0++(by8 (tkB xs e 32)++(by8 z32).drop (0+(tkB xs e 32).length))=by8 (hsh xs e):=by
 unfold hsh tkB
 split
 ·rename_i h
  rw[List.drop_of_length_le (by simp[z32]; omega)]
  simp
 ·show []++([]++(by8 z32).drop 0)=_
  simp
set_option maxHeartbeats 1000000 in
theorem zbv(hO:St H Γ)(hj:Γ[j]?=some (p,rdr v e))(hv:RdB Γ v xs)(hx:xs.length≤1000000)
  (hk:∀ H' v2,St H' (Γ.set j (p,rdr v2 (tkE xs e 32)))→Inh v xs v2 (tkR xs e 32)→K (agg (by8 (hsh xs e))) H'):wCall P zqe [ptr p 0] H K:=by
 apply zco; unfold zRl
 have hjl:=(List.getElem?_eq_some_iff.1 hj).1
 rw[zcH]
 refine nw hO.z ?_
 clear hO
 intro p2 H hO
 refine nw hO ?_
 clear hO
 intro p3 H hO
 replace hO:St H (Γ++[(p2,⟨by8 z32,true⟩),(p3,⟨by8 z32,true⟩)]):=hO
 refine zaa (sar hO 1 rfl (by simp[z32]) (by omega)) ?_
 refine zAB (n:=32) hO (zCa hj) hv.app (by omega) hx ?_
 intro H1 v2 v' c' hO1 i2 o'
 rw[show rdN (Γ++[(p2,(⟨by8 z32,true⟩:Blk)),(p3,⟨by8 z32,true⟩)]) j p xs e 32 v2=Γ.set j (p,rdr v2 (tkE xs e 32))++[(p2,⟨by8 z32,true⟩),(p3,⟨by8 z32,true⟩)] from List.set_append_left _ _ hjl] at hO1
 refine⟨zcb hO (Γ.length+1) (zwa rfl) hO1 ((Γ.set j (p,rdr v2 (tkE xs e 32))).length+1) (zCa (zwa rfl)) (zae _),?_⟩
 clear hO
 replace hk:=hk (v2:=v2)
 generalize Γ.set j (p,rdr v2 (tkE xs e 32))=Γ at *
 have htl:=zYm xs e 32
 refine zzw hO1 (i:=Γ.length+1) (zCa (zwa rfl)) (ys:=tkB xs e 32) o'.rd.app' htl (by simp[z32]) ?_
 clear hO1
 intro H hO
 rw[List.set_append_left _ _ (by simp),Go.Ab.set_r,zvE] at hO
 replace hO:St H (Γ++[(p2,⟨by8 z32,true⟩),(p3,⟨by8 (hsh xs e),true⟩)]):=hO.left
 refine lw hO 1 rfl (by simp[zbd]) (by omega) ?_
 refine sw hO 0 rfl (by simp[z32]) (by simp[zbd]) (zad _) ?_
 clear hO
 intro H hO
 refine lw hO 0 rfl (by simp[zbd]) (by omega) ?_
 exact hk H hO.left i2
set_option maxHeartbeats 1000000 in
theorem zvj(hO:St H Γ)(hj:Γ[j]?=some (p,rdr v e))(hv:RdB Γ v xs)(hx:xs.length≤1000000)
  (hk:∀ H' v2,St H' (Γ.set j (p,rdr v2 (tkE xs e 32)))→Inh v xs v2 (tkR xs e 32)→K (agg (by8 (hsh xs e))) H'):wCall P zkf [ptr p 0] H K:=by
 apply zWs; unfold zEr
 have hjl:=(List.getElem?_eq_some_iff.1 hj).1
 rw[zcH]
 refine nw hO.z ?_
 clear hO
 intro p2 H hO
 refine zaa bH0 ?_
 refine nw hO ?_
 clear hO
 intro p3 H hO
 refine sw hO 1 rfl (by simp[z32]) (by simp[z32]) (zad _) ?_
 clear hO
 intro H hO
 replace hO:St H (Γ++[(p2,⟨by8 z32,true⟩),(p3,⟨by8 z32,true⟩)]):=hO
 refine zdh (n:=32) hO (zCa hj) hv.app (by omega) hx ?_
 intro H1 v2 v' c' hO1 i2 o'
 rw[show rdN (Γ++[(p2,(⟨by8 z32,true⟩:Blk)),(p3,⟨by8 z32,true⟩)]) j p xs e 32 v2=Γ.set j (p,rdr v2 (tkE xs e 32))++[(p2,⟨by8 z32,true⟩),(p3,⟨by8 z32,true⟩)] from List.set_append_left _ _ hjl] at hO1
 clear hO
 replace hk:=hk (v2:=v2)
 generalize Γ.set j (p,rdr v2 (tkE xs e 32))=Γ at *
 have htl:=zYm xs e 32
 refine zva o'.lenSl ?_
 have hgo:∀ (raw:List Int) (hrl:raw.length≤32),OwnB v' raw c'→raw++z32.drop raw.length=hsh xs e→zHb P true 20 zgi 12 [ptr p2 0,ptr p3 0,v',int raw.length,int 0] H1 (fun id l H12=>
   cond (Nat.beq id 0) (opW (zka 32 (nth l 1) H12) fun t19 H14=>opW (zha 32 (nth l 0) t19 H14) fun u_1 H16=>opW (zka 32 (nth l 0) H16) fun r _=>K r H16) False) (fun l H12=>opW (zka 32 (nth l 0) H12) fun r_1 _=>K r_1 H12):=by
  intro raw hrl ho he
  have hz:z32.length=32:=rfl
  refine zXm (fun k l' H'=>∃ (y:Nat),y≤raw.length∧k=raw.length - y∧l'=[ptr p2 0,ptr p3 0,v',int raw.length,int y]∧St H' ((Γ++[(p2,⟨by8 z32,true⟩),(p3,⟨by8 (raw.take y++z32.drop y),true⟩)])++zKa v' c')) _ _ ?_ raw.length _ _ ⟨0,by omega,by omega,rfl,hO1⟩
  clear hO1
  rintro k l' H ⟨y,hy,rfl,rfl,hO⟩
  unfold zUl
  try simp only[zia,zja]
  refine zaa zMa ?_
  refine zma (fun h=>?_) (fun h=>?_)
  ·have hy:y < raw.length:=by omega
   obtain⟨pr,o,c,jr,br,rfl,h1,h2⟩:=(ho.rd.app' (Γ:=Γ++[(p2,⟨by8 z32,true⟩),(p3,⟨by8 (raw.take y++z32.drop y),true⟩)])).at hy
   refine zaa (zqb (by omega) (by omega)) ?_
   refine zoa hO jr h1 (v:=.int .u8 raw[y]) (by rw[show o+(y:Int).toNat * 1=o+y by omega]; exact h2) ?_
   refine zaa (zta (by omega) (by omega)) ?_
   refine zNa hO (Γ.length+1) (zCa (zwa rfl)) rfl (by simp[hz]; omega) (show _=by8 (raw.take (y+1)++z32.drop (y+1)) from ?_) ?_
   ·rw[show 0+(y:Int).toNat * 1=y by omega]
    have e1:z32.drop y=0::z32.drop (y+1):=by
     have e0:z32[y]'(by rw[hz]; omega)=0:=List.getElem_replicate _
     rw[List.drop_eq_getElem_cons (by rw[hz]; omega),e0]
    rw[e1,List.take_succ_eq_append_getElem hy]
    unfold by8
    rw[List.map_append,List.set_append_right _ _ (by simp; omega),List.map_append,List.map_append,show y - ((raw.take y).map (Value.int .u8)).length=0 by simp; omega,List.append_assoc]
    rfl
   clear hO
   intro H hO
   rw[List.set_append_left _ _ (by simp),Go.Ab.set_r] at hO
   repeat (first|refine oi ?_|refine ow ?_|refine wy ?_|refine wn ?_|refine wt ?_|refine wf' ?_|refine cy ?_|refine cn ?_)
   exact⟨raw.length - (y+1),by omega,y+1,by omega,rfl,rfl,hO⟩
  ·have e1:y=raw.length:=by omega
   subst e1
   rw[List.take_of_length_le (Nat.le_refl _),he] at hO
   refine zZa rfl ?_
   try simp only[zia,zja]
   replace hO:St H (Γ++[(p2,⟨by8 z32,true⟩),(p3,⟨by8 (hsh xs e),true⟩)]):=hO.left
   refine lw hO 1 rfl (by simp[zbd]) (by omega) ?_
   refine sw hO 0 rfl (by simp[z32]) (by simp[zbd]) (zad _) ?_
   clear hO
   intro H hO
   refine lw hO 0 rfl (by simp[zbd]) (by omega) ?_
   exact hk H hO.left i2
 refine hgo _ htl o' ?_
 unfold hsh tkB
 split
 ·rename_i h
  rw[List.drop_of_length_le (by simp[z32]; omega)]
  simp
 ·rfl
end J
