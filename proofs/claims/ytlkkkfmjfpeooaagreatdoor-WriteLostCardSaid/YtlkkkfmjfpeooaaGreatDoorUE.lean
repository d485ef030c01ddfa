/- texts of the proof, one behind the other -/
import Derived.Lib.RuneCountTail
import Derived.Test.YtlkkkfmjfpeooaaGreatDoorUD
set_option linter.unusedVariables false
set_option linter.unusedSimpArgs false
set_option linter.unusedSectionVars false
set_option maxRecDepth 100000
namespace J
open Go Go.Ab
variable{H:Heap}{Γ Γ0 Γ2 Δ G L:List (Nat × Blk)}{K:VH}{v w x:Value}{xs ys zs bs b key ms:List Int}{j p q o n k:Nat}{e:Int}{cs cs':List Value}{l m:List UInt8}
abbrev str(l:List UInt8):Value:=.string ⟨l.toArray⟩
theorem zGs:ztt (str l) H=some (int l.length,H):=by
 show some (Value.int .i64 (Int.ofNat (zce l)),H)=_
 rw[zFa]; rfl
theorem zRA{k:IntKind}{i:Int}(h0:0≤i)(h1:i < l.length):zUs (str l) (.int k i)=some (zsb .u8 (l.getD i.toNat 0).toNat):=by
 show (match leB 0 i with|true=>(atN l i.toNat).map zLk|false=>none)=_
 rw[zbc,decide_eq_true h0]
 simp only[zYi]
 rw[List.getD_eq_getElem?_getD,List.getElem?_eq_getElem (by omega)]
 rfl
theorem bHi{len n:Nat}(h:n≤len):zkc len (some (int (n:Int)))=some n:=by
 show (match leB 0 (n:Int) with|true=>(match Nat.ble (n:Int).toNat len with|true=>some (n:Int).toNat|false=>none)|false=>none)=_
 rw[zbc,decide_eq_true (by omega)]
 simp only[Int.toNat_natCast]
 rw[Nat.ble_eq_true_of_le h]
theorem zSA{n:Nat}(h:n≤l.length):zqg (str l) none (some (int n)) none=some (str (l.take n)):=by
 show (match zkc (zce l) (some (int n)) with|some h=>(match zkd h none with|some i=>some (Value.string ⟨(takeN (zXj l i) (h - i)).toArray⟩)|none=>none)|none=>none)=_
 rw[bHi (by rw[zFa]; exact h)]
 simp[zkd,zlb,ztb]
theorem zBD{n:Nat}(h:n≤l.length):zqg (str l) (some (int n)) none none=some (str (l.drop n)):=by
 show (match zkc (zce l) none with|some h=>(match zkd h (some (int n)) with|some i=>some (Value.string ⟨(takeN (zXj l i) (h - i)).toArray⟩)|none=>none)|none=>none)=_
 rw[zFa]
 simp only[zkc]
 rw[zBo h]
 simp only[zlb,ztb]
 rw[List.take_of_length_le (by simp)]
def cb(l:List UInt8)(i:Nat):Nat:=(l.getD i 0).toNat
theorem zqk(l:List UInt8)(i:Nat):cb l i < 256:=(l.getD i 0).toNat_lt
def isC(c:Nat):Prop:=128≤c∧c≤191
instance (c:Nat):Decidable (isC c):=by unfold isC; exact inferInstance
def nP(l:List UInt8)(n0:Nat):Nat→Nat
 | 0=>n0
 | y+1=>64 * nP l n0 y+cb l (y+1) - 128
def zoy(l:List UInt8):Nat→Bool
 | 0=>true
 | y+1=>zoy l y && decide (isC (cb l (y+1)))
def zgx(l:List UInt8)(size n0 least:Nat):Option (Nat × Nat):=
 if l.length < size then none else if zoy l (size - 1)=true then
  (if nP l n0 (size - 1) < least∨nP l n0 (size - 1) > 1114111∨(55296≤nP l n0 (size - 1)∧nP l n0 (size - 1)≤57343) then none else some (nP l n0 (size - 1),size))
 else none
def o4(l:List UInt8):Option (Nat × Nat):=
 if cb l 0 < 128 then some (cb l 0,1)
 else if 194≤cb l 0∧cb l 0 < 224 then zgx l 2 (cb l 0 - 192) 128
 else if 224≤cb l 0∧cb l 0 < 240 then zgx l 3 (cb l 0 - 224) 2048
 else if 240≤cb l 0∧cb l 0 < 245 then zgx l 4 (cb l 0 - 240) 65536
 else none
def zQi(l:List UInt8):List Value:=match o4 l with
 | none=>[int (cb l 0),str (l.take 1),.bool true]
 | some r=>[int r.1,str (l.take r.2),.bool false]
theorem zTA:zc P 149=[int 0,str [],.bool false]:=by kernel_rfl
theorem zXF(n:Int)(s:ByteArray)(b:Bool):(zxa P 149).f [(0,int n),(1,.string s),(2,.bool b)]=some (agg [int n,.string s,.bool b]):=by kernel_rfl
theorem zHH{n0:Nat}(h:n0 < 32):∀ y,y≤3→nP l n0 y < 64 ^ y * 64:=by
 intro y hy
 match y,hy with
 | 0,_=>simp[nP]; omega
 | 1,_=>have:=zqk l 1; simp[nP]; omega
 | 2,_=>have:=zqk l 1; have:=zqk l 2; simp[nP]; omega
 | 3,_=>have:=zqk l 1; have:=zqk l 2; have:=zqk l 3; simp[nP]; omega
theorem zcJ{n0:Nat}(y:Nat)(h:zoy l (y+1)=true):128≤64 * nP l n0 y+cb l (y+1):=by
 have:isC (cb l (y+1)):=by
  have h:(zoy l y && decide (isC (cb l (y+1))))=true:=h
  rw[Bool.and_eq_true] at h
  exact of_decide_eq_true h.2
 have:=this.1
 omega
set_option maxHeartbeats 2000000 in
theorem zCD{p2 p4 size n0 least:Nat}{Qx:LX}{Qr:LN}{bad:List Value}(hbl:bad.length=3)(hb1:bad.all oneCell=true)(hn0:n0 < 32)(hs1:2≤size)(hs:size≤4)(hl:size≤l.length)
  (hO:St H (Γ++[(p2,⟨[int 0,str [],.bool false],true⟩),(p4,⟨bad,true⟩)]))
  (hk1:zoy l (size - 1)=true→Qx 1 [str l,ptr p2 0,ptr p4 0,int size,int (nP l n0 (size - 1)),int least] H)
  (hk0:zoy l (size - 1)=false→∀ H' l',St H' (Γ++[(p2,⟨bad,true⟩),(p4,⟨bad,true⟩)])→nth l' 1=ptr p2 0→Qr l' H') :
  zdb P true 98 zAj 245 [str l,ptr p2 0,ptr p4 0,int size,int n0,int least,int 1] H Qx Qr:=by
 refine zfo (fun k l' H'=>∃ (y:Nat),y+1≤size∧k=size - y∧l'=[str l,ptr p2 0,ptr p4 0,int size,int (nP l n0 y),int least,int ((y+1:Nat):Int)]∧H=H'∧zoy l y=true) _ _ ?_ size _ _ ⟨0,by omega,by omega,rfl,rfl,rfl⟩
 rintro k l' H' ⟨y,hy,rfl,rfl,rfl,hc⟩
 unfold zJn
 try simp only[zia,zja]
 refine zaa zIa ?_
 refine zna (fun h=>?_) (fun h=>?_)
 ·have hy:y+1 < size:=by omega
  have hcb:=zqk l (y+1)
  have hnp:=zHH (l:=l) hn0 y (by omega)
  have hpw:64 ^ y≤64 ^ 3:=Nat.pow_le_pow_right (by omega) (by omega)
  refine zaa (zRA (by omega) (by omega)) ?_
  rw[Int.toNat_natCast]
  refine zCa (zAJ (k:=.u8) (by show cb l (y+1)≤_; omega)) ?_
  rw[show (l.getD (y+1) 0).toNat=cb l (y+1) from rfl]
  by_cases h2:isC (cb l (y+1))
  ·have hc2:zoy l (y+1)=true:=by show (zoy l y && decide (isC (cb l (y+1))))=true; rw[hc,decide_eq_true h2]; rfl
   have hge:=zcJ (n0:=n0) y hc2
   obtain⟨g1,g2⟩:=h2
   refine zva (fun l' H'=>l'=[str l,ptr p2 0,ptr p4 0,int size,int (nP l n0 y),int least,int ((y+1:Nat):Int),int (cb l (y+1)),.bool false]∧H=H') ?_ ?_
   ·repeat (first|refine oi ?_|refine ow ?_|refine wy ?_|refine wn ?_|refine wt ?_|refine wf' ?_|refine cy ?_|refine cn ?_)
    exact⟨by first|(rw[decide_eq_false (by omega)]; done)|(rw[decide_eq_false (by omega)]; rfl),(by first|rfl|trivial)⟩
   rintro l' H' ⟨rfl,rfl⟩
   try simp only[zia,zja]
   refine zXa rfl ?_
   refine zaa (zQe (by omega) (by omega)) ?_
   repeat (first|refine oi ?_|refine ow ?_|refine wy ?_|refine wn ?_|refine wt ?_|refine wf' ?_|refine cy ?_|refine cn ?_)
   refine⟨size - (y+1),by omega,y+1,by omega,rfl,?_,(by first|rfl|trivial),hc2⟩
   rw[show nP l n0 (y+1)=64 * nP l n0 y+cb l (y+1) - 128 from rfl]
   have e1:(64 * (nP l n0 y:Int)+(cb l (y+1):Int) - 128)=((64 * nP l n0 y+cb l (y+1) - 128:Nat):Int):=by omega
   rw[e1]; rfl
  ·have hcf:zoy l (size - 1)=false:=by
    have:∀ z,y+1≤z→zoy l z=false:=by
     intro z hz
     induction z with
     | zero=>omega
     | succ z ih=>
      show (zoy l z && decide (isC (cb l (z+1))))=false
      by_cases hz2:y+1≤z
      ·rw[ih hz2]; rfl
      ·have:z=y:=by omega
       subst this
       rw[decide_eq_false h2,Bool.and_false]
    exact this _ (by omega)
   refine zva (fun l' H'=>l'=[str l,ptr p2 0,ptr p4 0,int size,int (nP l n0 y),int least,int ((y+1:Nat):Int),int (cb l (y+1)),.bool true]∧H=H') ?_ ?_
   ·refine zaa zIa ?_
    refine zna (fun h3=>?_) (fun h3=>?_)
    ·repeat (first|refine oi ?_|refine ow ?_|refine wy ?_|refine wn ?_|refine wt ?_|refine wf' ?_|refine cy ?_|refine cn ?_)
     exact⟨(by first|rfl|trivial),(by first|rfl|trivial)⟩
    ·repeat (first|refine oi ?_|refine ow ?_|refine wy ?_|refine wn ?_|refine wt ?_|refine wf' ?_|refine cy ?_|refine cn ?_)
     refine⟨?_,(by first|rfl|trivial)⟩
     unfold isC at h2
     rw[decide_eq_true (show (191:Int) < (cb l (y+1):Int) by omega)]
   rintro l' H' ⟨rfl,rfl⟩
   try simp only[zia,zja]
   refine zsc rfl ?_
   refine lw hO 1 rfl hbl (by omega) ?_
   refine sw hO 0 rfl rfl hbl hb1 ?_
   intro H2 hO2
   exact hk0 hcf _ _ hO2 rfl
 ·have e:y=size - 1:=by omega
  subst e
  exact hk1 hc
end J
set_option maxRecDepth 100000
namespace J
open Go Go.Ab
variable{H:Heap}{Γ Γ0 Γ2 Δ G L:List (Nat × Blk)}{K:VH}{v w x:Value}{xs ys zs bs b key ms:List Int}{j p q o n k:Nat}{e:Int}{cs cs':List Value}{l m:List UInt8}
theorem znu(l:List UInt8):(zQi l).all oneCell=true∧(zQi l).length=3:=by
 unfold zQi
 split <;> exact⟨rfl,rfl⟩
theorem zFf{size n0 least:Nat}{r:Nat × Nat}(h:zgx l size n0 least=some r):size≤l.length∧r.2=size:=by
 unfold zgx at h
 split at h
 ·cases h
 ·split at h
  ·split at h
   ·cases h
   ·cases h; exact⟨by omega,rfl⟩
  ·cases h
theorem zyE{r:Nat × Nat}(h:o4 l=some r)(hl:l≠[]):1≤r.2∧r.2≤4∧r.2≤l.length:=by
 have hl:0 < l.length:=List.length_pos_iff.2 hl
 unfold o4 at h
 split at h
 ·cases h; exact⟨by simp,by simp,hl⟩
 split at h
 ·obtain⟨h1,h2⟩:=zFf h; omega
 split at h
 ·obtain⟨h1,h2⟩:=zFf h; omega
 split at h
 ·obtain⟨h1,h2⟩:=zFf h; omega
 ·cases h
set_option maxHeartbeats 4000000 in
theorem zDD(hl:l≠[])(hO:St H Γ)(hk:∀ H',St H' Γ→K (agg (zQi l)) H'):wCall P zZh [str l] H K:=by
 apply zWt; unfold zVt
 have hl1:0 < l.length:=List.length_pos_iff.2 hl
 have ha:=zqk l 0
 rw[zTA]
 refine nw hO.z ?_
 clear hO
 intro p2 H hO
 refine zaa (zRA (by omega) (by omega)) ?_
 rw[show (l.getD (0:Int).toNat 0).toNat=cb l 0 from rfl]
 refine zCa (zAJ (k:=.u8) (by omega)) ?_
 refine zaa (zSA (n:=1) (by omega)) ?_
 refine zaa (zXF _ _ _) ?_
 refine nw hO ?_
 clear hO
 intro p4 H hO
 refine sw hO 1 rfl rfl rfl rfl ?_
 clear hO
 intro H hO
 replace hO:St H (Γ++[(p2,⟨[int 0,str [],.bool false],true⟩),(p4,⟨[int (cb l 0),str (l.take 1),.bool true],true⟩)]):=hO
 by_cases h0:cb l 0 < 128
 ·repeat (first|refine oi ?_|refine ow ?_|refine wy ?_|refine wn ?_|refine wt ?_|refine wf' ?_|refine cy ?_|refine cn ?_)
  refine zaa (zSA (n:=1) (by omega)) ?_
  refine zaa (zXF _ _ _) ?_
  refine sw hO 0 rfl rfl rfl rfl ?_
  clear hO
  intro H hO
  refine lw hO 0 rfl rfl (by omega) ?_
  have:=hk _ hO.left
  unfold zQi at this
  rw[show o4 l=some (cb l 0,1) from if_pos h0] at this
  exact this
 have hbad:o4 l=none→∀ H (Δ:List (Nat × Blk)),St H (Γ++Δ)→K (agg [int (cb l 0),str (l.take 1),.bool true]) H:=fun h H Δ hO=>by
  have:=hk _ hO.left
  unfold zQi at this
  rw[h] at this
  exact this
 refine zaa zIa ?_
 refine zVz (by omega) ?_
 refine zva (fun l' H'=>∃ (size n0 least:Nat),l'=[str l,ptr p2 0,ptr p4 0,int size,int n0,int least]∧H=H'∧n0 < 32∧2≤size∧size≤4∧o4 l=zgx l size n0 least) ?_ ?_
 ·by_cases c2:194≤cb l 0∧cb l 0 < 224
  ·refine zHd ?_
   repeat (first|refine oi ?_|refine ow ?_|refine wy ?_|refine wn ?_|refine wt ?_|refine wf' ?_|refine cy ?_|refine cn ?_)
   try simp only[zia,zja]
   repeat (first|refine oi ?_|refine ow ?_|refine wy ?_|refine wn ?_|refine wt ?_|refine wf' ?_|refine cy ?_|refine cn ?_)
   refine⟨2,cb l 0 - 192,128,by rw[show ((cb l 0 - 192:Nat):Int)=(cb l 0:Int) - 192 by omega]; rfl,(by first|rfl|trivial),by omega,by omega,by omega,?_⟩
   unfold o4
   rw[if_neg h0,if_pos c2]
  by_cases c3:224≤cb l 0∧cb l 0 < 240
  ·refine zva (fun l' H'=>l'=[str l,ptr p2 0,int (cb l 0),ptr p4 0,int 0,int 0,int 0,.bool false]∧H=H') ?_ ?_
   ·repeat (first|refine oi ?_|refine ow ?_|refine wy ?_|refine wn ?_|refine wt ?_|refine wf' ?_|refine cy ?_|refine cn ?_)
    exact⟨by rw[decide_eq_false (by omega)],(by first|rfl|trivial)⟩
   rintro l' H' ⟨rfl,rfl⟩
   try simp only[zia,zja]
   refine zXa rfl ?_
   refine zHd ?_
   repeat (first|refine oi ?_|refine ow ?_|refine wy ?_|refine wn ?_|refine wt ?_|refine wf' ?_|refine cy ?_|refine cn ?_)
   try simp only[zia,zja]
   repeat (first|refine oi ?_|refine ow ?_|refine wy ?_|refine wn ?_|refine wt ?_|refine wf' ?_|refine cy ?_|refine cn ?_)
   refine⟨3,cb l 0 - 224,2048,by rw[show ((cb l 0 - 224:Nat):Int)=(cb l 0:Int) - 224 by omega]; rfl,(by first|rfl|trivial),by omega,by omega,by omega,?_⟩
   unfold o4
   rw[if_neg h0,if_neg c2,if_pos c3]
  refine zva (fun l' H'=>l'=[str l,ptr p2 0,int (cb l 0),ptr p4 0,int 0,int 0,int 0,.bool false]∧H=H') ?_ ?_
  ·refine zaa zMf ?_
   refine zna (fun h1=>?_) (fun h1=>?_)
   ·repeat (first|refine oi ?_|refine ow ?_|refine wy ?_|refine wn ?_|refine wt ?_|refine wf' ?_|refine cy ?_|refine cn ?_)
    exact⟨by rw[decide_eq_false (by omega)],(by first|rfl|trivial)⟩
   ·repeat (first|refine oi ?_|refine ow ?_|refine wy ?_|refine wn ?_|refine wt ?_|refine wf' ?_|refine cy ?_|refine cn ?_)
    exact⟨(by first|rfl|trivial),(by first|rfl|trivial)⟩
  rintro l' H' ⟨rfl,rfl⟩
  try simp only[zia,zja]
  refine zXa rfl ?_
  refine zva (fun l' H'=>l'=[str l,ptr p2 0,int (cb l 0),ptr p4 0,int 0,int 0,int 0,.bool false]∧H=H') ?_ ?_
  ·refine zaa zMf ?_
   refine zna (fun h1=>?_) (fun h1=>?_)
   ·repeat (first|refine oi ?_|refine ow ?_|refine wy ?_|refine wn ?_|refine wt ?_|refine wf' ?_|refine cy ?_|refine cn ?_)
    exact⟨by rw[decide_eq_false (by omega)],(by first|rfl|trivial)⟩
   ·repeat (first|refine oi ?_|refine ow ?_|refine wy ?_|refine wn ?_|refine wt ?_|refine wf' ?_|refine cy ?_|refine cn ?_)
    exact⟨(by first|rfl|trivial),(by first|rfl|trivial)⟩
  rintro l' H' ⟨rfl,rfl⟩
  try simp only[zia,zja]
  refine zXa rfl ?_
  by_cases c4:240≤cb l 0∧cb l 0 < 245
  ·refine zHd ?_
   repeat (first|refine oi ?_|refine ow ?_|refine wy ?_|refine wn ?_|refine wt ?_|refine wf' ?_|refine cy ?_|refine cn ?_)
   try simp only[zia,zja]
   repeat (first|refine oi ?_|refine ow ?_|refine wy ?_|refine wn ?_|refine wt ?_|refine wf' ?_|refine cy ?_|refine cn ?_)
   refine⟨4,cb l 0 - 240,65536,by rw[show ((cb l 0 - 240:Nat):Int)=(cb l 0:Int) - 240 by omega]; rfl,(by first|rfl|trivial),by omega,by omega,by omega,?_⟩
   unfold o4
   rw[if_neg h0,if_neg c2,if_neg c3,if_pos c4]
  have hn:o4 l=none:=by unfold o4; rw[if_neg h0,if_neg c2,if_neg c3,if_neg c4]
  refine zva (fun l' H'=>l'=[str l,ptr p2 0,int (cb l 0),ptr p4 0,int 0,int 0,int 0,.bool false]∧H=H') ?_ ?_
  ·refine zaa zMf ?_
   refine zna (fun h1=>?_) (fun h1=>?_)
   ·repeat (first|refine oi ?_|refine ow ?_|refine wy ?_|refine wn ?_|refine wt ?_|refine wf' ?_|refine cy ?_|refine cn ?_)
    exact⟨by rw[decide_eq_false (by omega)],(by first|rfl|trivial)⟩
   ·repeat (first|refine oi ?_|refine ow ?_|refine wy ?_|refine wn ?_|refine wt ?_|refine wf' ?_|refine cy ?_|refine cn ?_)
    exact⟨(by first|rfl|trivial),(by first|rfl|trivial)⟩
  rintro l' H' ⟨rfl,rfl⟩
  try simp only[zia,zja]
  refine zXa rfl ?_
  refine lw hO 1 rfl rfl (by omega) ?_
  refine sw hO 0 rfl rfl rfl rfl ?_
  clear hO
  intro H hO
  refine lw hO 0 rfl rfl (by omega) ?_
  exact hbad hn _ _ hO
 rintro l' H' ⟨size,n0,least,rfl,rfl,g1,g2,g3,g4⟩
 try simp only[zia,zja]
 refine zCa zGs ?_
 refine zaa zIa ?_
 refine zna (fun h=>?_) (fun h=>?_)
 ·refine lw hO 1 rfl rfl (by omega) ?_
  refine sw hO 0 rfl rfl rfl rfl ?_
  clear hO
  intro H hO
  refine lw hO 0 rfl rfl (by omega) ?_
  refine hbad ?_ _ _ hO
  rw[g4]; unfold zgx
  rw[if_pos (by omega)]
 refine zCD rfl rfl g1 g2 g3 (by omega) hO ?_ ?_
 ·intro hc
  refine zKa rfl ?_
  have hlt:=zHH (l:=l) g1 (size - 1) (by omega)
  have hs:o4 l=if nP l n0 (size - 1) < least∨nP l n0 (size - 1) > 1114111∨(55296≤nP l n0 (size - 1)∧nP l n0 (size - 1)≤57343) then none else some (nP l n0 (size - 1),size):=by
   rw[g4]; unfold zgx
   rw[if_neg (by omega),if_pos hc]
  generalize nP l n0 (size - 1)=N at *
  try simp only[zia,zja]
  refine zva (fun l' H'=>l'=[str l,ptr p2 0,ptr p4 0,int size,int N,.bool (decide (N < least∨N > 1114111∨(55296≤N∧N≤57343)))]∧H=H') ?_ ?_
  ·by_cases z1:N < least
   ·repeat (first|refine oi ?_|refine ow ?_|refine wy ?_|refine wn ?_|refine wt ?_|refine wf' ?_|refine cy ?_|refine cn ?_)
    exact⟨by rw[decide_eq_true (show N < least∨N > 1114111∨(55296≤N∧N≤57343) from .inl z1)],(by first|rfl|trivial)⟩
   by_cases z2:N > 1114111
   ·repeat (first|refine oi ?_|refine ow ?_|refine wy ?_|refine wn ?_|refine wt ?_|refine wf' ?_|refine cy ?_|refine cn ?_)
    exact⟨by rw[decide_eq_true (show N < least∨N > 1114111∨(55296≤N∧N≤57343) from .inr (.inl z2))],(by first|rfl|trivial)⟩
   by_cases z3:55296≤N
   ·repeat (first|refine oi ?_|refine ow ?_|refine wy ?_|refine wn ?_|refine wt ?_|refine wf' ?_|refine cy ?_|refine cn ?_)
    exact⟨by rw[decide_eq_decide.2 (show ((N:Int)≤57343)↔(N < least∨N > 1114111∨(55296≤N∧N≤57343)) by omega)],(by first|rfl|trivial)⟩
   ·repeat (first|refine oi ?_|refine ow ?_|refine wy ?_|refine wn ?_|refine wt ?_|refine wf' ?_|refine cy ?_|refine cn ?_)
    exact⟨by rw[decide_eq_false (show ¬ (N < least∨N > 1114111∨(55296≤N∧N≤57343)) by omega)],(by first|rfl|trivial)⟩
  rintro l' H' ⟨rfl,rfl⟩
  try simp only[zia,zja]
  refine zna (fun z=>?_) (fun z=>?_)
  ·refine lw hO 1 rfl rfl (by omega) ?_
   refine sw hO 0 rfl rfl rfl rfl ?_
   clear hO
   intro H hO
   refine lw hO 0 rfl rfl (by omega) ?_
   exact hbad (by rw[hs,if_pos z]) _ _ hO
  ·refine zaa (zSA (by omega)) ?_
   refine zaa (zXF _ _ _) ?_
   refine sw hO 0 rfl rfl rfl rfl ?_
   clear hO
   intro H hO
   refine lw hO 0 rfl rfl (by omega) ?_
   have:=hk _ hO.left
   unfold zQi at this
   rw[hs,if_neg z] at this
   exact this
 ·intro hc H l' hO hp
  rw[hp]
  refine lw hO 0 rfl rfl (by omega) ?_
  refine hbad ?_ _ _ hO
  rw[g4]; unfold zgx
  rw[if_neg (by omega),if_neg (by rw[hc]; simp)]
end J
set_option maxRecDepth 100000
namespace J
open Go Go.Ab
variable{H:Heap}{Γ Γ0 Γ2 Δ G L:List (Nat × Blk)}{K:VH}{v w x:Value}{xs ys zs bs b key ms:List Int}{j p q o n k:Nat}{e:Int}{cs cs':List Value}{l m:List UInt8}{ds:List (List UInt8)}
def wid(l:List UInt8):Nat:=match o4 l with
 | none=>1
 | some r=>r.2
def zIy:Nat→List UInt8→List (List UInt8)
 | 0,_=>[]
 | n+1,l=>if l=[] then [] else l::zIy n (l.drop (wid l))
def zhx(l:List UInt8):List (List UInt8):=zIy l.length l
theorem zUA(hl:l≠[]):1≤wid l∧wid l≤l.length:=by
 unfold wid
 split
 ·exact⟨Nat.le_refl _,List.length_pos_iff.2 hl⟩
 ·rename_i r h
  have:=zyE h hl
  exact⟨this.1,this.2.2⟩
theorem zix:∀ (n:Nat) (l:List UInt8),(zIy n l).length≤n
 | 0,_=>Nat.zero_le _
 | n+1,l=>by
  unfold zIy
  split
  ·exact Nat.zero_le _
  ·have:=zix n (l.drop (wid l))
   simpa using this
theorem zYF(l:List UInt8):(zQi l)[1]?=some (str (l.take (wid l))):=by
 unfold zQi wid
 cases o4 l <;> rfl
theorem zIH(a b c:Value)(H:Heap):(zoa P 146 1).f [(0,agg [a,b,c])] H=some (sl H.next 0 1 7,H.push [a,b,c]):=by kernel_rfl
theorem zZF(H:Heap):(zoa P 146 0).f [] H=some (sl H.next 0 0 7,H.push []):=by kernel_rfl
theorem three{l:List Value}(h:l.length=3):∃ a b c,l=[a,b,c]:=by
 match l,h with
 | [a,b,c],_=>exact⟨a,b,c,rfl⟩
abbrev rnC(ds:List (List UInt8)):List Value:=ds.flatMap zQi
set_option maxHeartbeats 2000000 in
theorem zpy(hl:l.length≤1000000)(hO:St H Γ)(hk:∀ H' v,St H' (Γ++zhb v (rnC (zhx l)))→Own 3 v (zhx l).length (rnC (zhx l))→K v H'):wCall P zDf [str l] H K:=by
 apply zyq; unfold zHp
 refine zbb hO (zZF _) ?_
 clear hO
 intro q H hO
 refine zem (fun k l' H'=>∃ (r:List UInt8) (ds:List (List UInt8)) (v:Value),r.length≤k∧ds.length+k≤l.length∧zhx l=ds++zIy k r∧l'=[str r,zBa,v]∧St H' (Γ++zhb v (rnC ds))∧Own 3 v ds.length (rnC ds)) _ _ ?_ l.length _ _ ⟨l,[],sl q 0 0 7,Nat.le_refl _,by simp,rfl,rfl,hO,.inr ⟨q,.inr rfl,rfl⟩⟩
 clear hO
 rintro k l' H ⟨r,ds,v,hr,hd,he,rfl,hO,hv⟩
 unfold zEk
 try simp only[zia,zja]
 refine zaa (show _=some (.bool (!(r == []))) from rfl) ?_
 by_cases h0:r=[]
 ·subst h0
  refine zXa rfl ?_
  refine zKa rfl ?_
  try simp only[zia,zja]
  have e0:zIy k []=[]:=by cases k <;> rfl
  rw[e0,List.append_nil] at he
  rw[he] at hk
  exact hk H v hO hv
 ·have hb:(r == [])=false:=by cases r <;> first|rfl|exact absurd rfl h0
  rw[hb]
  refine zsc rfl ?_
  refine zDD h0 hO ?_
  clear hO
  intro H hO
  rw[zTA]
  obtain⟨g1,g2⟩:=znu r
  refine zHa hO ?_
  clear hO
  intro p4 H hO
  refine zra hO (_+0) (zua rfl) rfl g2 g1 ?_
  clear hO
  intro H hO
  replace hO:=hO.set_r
  replace hO:St H ((Γ++zhb v (rnC ds))++[(p4,⟨zQi r,true⟩)]):=hO
  refine zta hO (_+0) (zua rfl) g2 (by omega) ?_
  obtain⟨ca,cb,cc,hc⟩:=three g2
  refine zbb hO (by rw[hc]; exact zIH _ _ _ _) ?_
  rw[← hc]
  clear hO
  intro q2 H hO
  replace hO:St H (((Γ++[(p4,⟨zQi r,true⟩)])++zhb v (rnC ds))++[(q2,⟨zQi r,true⟩)]):=hO.perm (by classical exact List.perm_iff_count.2 fun _=>by simp only[List.count_append,List.count_nil,List.set_cons_zero]; omega)
  refine zLe hO hv g2 (by omega) g1 (by omega) (by omega) ?_
  clear hO
  intro v2 H hO hv2
  obtain⟨w1,w2⟩:=zUA h0
  refine zaa zca ?_
  refine zga hO (Γ.length+0) (zwa (zua rfl)) (v:=str (r.take (wid r))) (zYF r) ?_
  refine zCa zGs ?_
  rw[List.length_take,Nat.min_eq_left w2]
  refine zaa (zBD w2) ?_
  cases k with
  | zero=>omega
  | succ k=>
   refine⟨k,Nat.lt_succ_self _,r.drop (wid r),ds++[r],v2,?_,?_,?_,rfl,?_,?_⟩
   ·rw[List.length_drop]; omega
   ·rw[List.length_append]; simp; omega
   ·rw[he]
    show ds++(if r=[] then [] else r::zIy k (r.drop (wid r)))=_
    rw[if_neg h0]; simp
   ·replace hO:St H (Γ++zhb v2 (rnC ds++zQi r)):=St.mid hO
    simpa using hO
   ·simpa using hv2
def okR(l:List UInt8)(first:Bool):Bool:=match o4 l with
 | none=>false
 | some r=>Go.Lib.isLetterU r.1 || (!first && (Go.Lib.isDigitU r.1 || (l.take r.2 == [45] || (l.take r.2 == [95] || l.take r.2 == [46]))))
def zEI(l:List UInt8):Bool:=match o4 l with
 | none=>false
 | some r=>Go.Lib.isLetterU r.1
def zen:Nat→List (List UInt8)→Bool
 | _,[]=>true
 | i,r::ds=>okR r (i == 0) && zen (i+1) ds
def nm4(l:List UInt8):Int:=if (zhx l).length=0∨(zhx l).length > 24 then 41 else if zen 0 (zhx l)=true then 0 else 41
theorem zdJ{n:Int}(h0:0≤n)(h1:n < 2147483648):zhf .i32 (int n) H=some (.int .i32 n,H):=by
 show some (Value.int .i32 (zqc .i32 n),H)=_
 have:zqc .i32 n=n:=by
  show zbf 2147483648 4294967296 n=n
  unfold zbf
  obtain⟨m,rfl⟩:∃ m:Nat,n=m:=⟨n.toNat,by omega⟩
  have hb:Nat.blt m 2147483648=true:=by rw[blt_eq,decide_eq_true (by omega)]
  show (match Nat.blt m 2147483648 with|true=>Int.ofNat m|false=>_)=_
  rw[hb]; rfl
 rw[this]
theorem zqy{i:Nat}{ds:List (List UInt8)}:∀ (y:Nat) (h:y < ds.length),zen (i+y) (ds.drop y)=(okR ds[y] (i+y == 0) && zen (i+(y+1)) (ds.drop (y+1))):=by
 intro y h
 rw[List.drop_eq_getElem_cons h]
 rfl
end J
set_option maxRecDepth 100000
namespace J
open Go Go.Ab
variable{H:Heap}{Γ Γ0 Γ2 Δ G L:List (Nat × Blk)}{K:VH}{v w x:Value}{xs ys zs bs b key ms:List Int}{j p q o n k:Nat}{e:Int}{cs cs':List Value}{l m:List UInt8}{ds:List (List UInt8)}
theorem zQv{size n0 least:Nat}{r:Nat × Nat}(h:zgx l size n0 least=some r):r.1≤1114111:=by
 unfold zgx at h
 split at h
 ·cases h
 ·split at h
  ·split at h
   ·cases h
   ·cases h; simp only; omega
  ·cases h
theorem zeJ{r:Nat × Nat}(h:o4 l=some r):r.1≤1114111:=by
 have:=zqk l 0
 unfold o4 at h
 split at h
 ·cases h; simp only; omega
 split at h
 ·exact zQv h
 split at h
 ·exact zQv h
 split at h
 ·exact zQv h
 ·cases h
structure Rn3 (l:List UInt8) (n:Nat) (bt:List UInt8) (br:Bool):Prop where
 cells:zQi l=[int n,str bt,.bool br]
 lt:n≤1114111
 let':zEI l=(!br && Go.Lib.isLetterU n)
 ok:∀ f,okR l f=(!br && (Go.Lib.isLetterU n || (!f && (Go.Lib.isDigitU n || (bt == [45] || (bt == [95] || bt == [46]))))))
theorem rn3(l:List UInt8):∃ n bt br,Rn3 l n bt br:=by
 cases h:o4 l with
 | none=>exact⟨cb l 0,l.take 1,true,by unfold zQi; rw[h],by have:=zqk l 0; omega,by unfold zEI; rw[h]; rfl,fun f=>by unfold okR; rw[h]; rfl⟩
 | some r=>exact⟨r.1,l.take r.2,false,by unfold zQi; rw[h],zeJ h,by unfold zEI; rw[h]; rfl,fun f=>by unfold okR; rw[h]; rfl⟩
set_option maxHeartbeats 4000000 in
theorem zVA{Qx:LX}{Qr:LN}(hl:ds.length≤1000000)(hv:Own 3 v ds.length (rnC ds))(hO:St H (Γ++zhb v (rnC ds)))
  (hk1:zen 0 ds=true→∀ H',St H' Γ→Qx 0 [int 0] H') (hk0:zen 0 ds=false→∀ H',St H' Γ→Qr [int 41] H') :
  zdb P true 64 zki 4 [int 0,v,int ds.length,int 0] H Qx Qr:=by
 refine zSm (fun k l' H'=>∃ (y:Nat),y≤ds.length∧k=ds.length - y∧l'=[int 0,v,int ds.length,int y]∧St H' (Γ++zhb v (rnC ds))∧zen 0 ds=zen y (ds.drop y)) _ _ ?_ ds.length _ _ ⟨0,by omega,by omega,rfl,hO,rfl⟩
 clear hO
 rintro k l' H ⟨y,hy,rfl,rfl,hO,hok⟩
 unfold zZl
 try simp only[zia,zja]
 refine zaa zIa ?_
 refine zna (fun h=>?_) (fun h=>?_)
 ·have hy:y < ds.length:=by omega
  obtain⟨pv,cv,rfl,hΓ⟩:∃ pv cv,v=sl pv 0 ds.length cv∧zhb v (rnC ds)=[(pv,⟨rnC ds,true⟩)]:=by
   rcases hv with⟨_,h0,_⟩|⟨pv,rfl|rfl,_⟩
   ·omega
   ·exact⟨pv,_,rfl,rfl⟩
   ·exact⟨pv,_,rfl,rfl⟩
  rw[hΓ] at hO
  have hdrop:=zqy (i:=0) (ds:=ds) y hy
  rw[Nat.zero_add,Nat.zero_add] at hdrop
  rw[hdrop] at hok
  obtain⟨n,bt,br,r3⟩:=rn3 ds[y]
  have hcells:=zMp (f:=zQi) (n:=3) (l:=ds) (i:=y) (o:=0) (m:=3) (fun x _=>(znu x).2) hy (by omega)
  rw[r3.cells] at hcells
  refine zaa (zfb (by omega) (by omega)) ?_
  refine zMa hO (Γ.length+0) (zua rfl) (show _=[int n,str bt,.bool br] from by rw[show 0+(y:Int).toNat * 3=y * 3+0 by omega]; exact hcells) rfl (by omega) ?_
  rw[zTA]
  refine nw hO ?_
  clear hO
  intro p5 H hO
  refine sw hO 1 rfl rfl rfl rfl ?_
  clear hO
  intro H hO
  replace hO:St H (Γ++[(pv,⟨rnC ds,true⟩),(p5,⟨[int n,str bt,.bool br],true⟩)]):=hO
  repeat (first|refine oi ?_|refine ow ?_|refine wy ?_|refine wn ?_|refine wt ?_|refine wf' ?_|refine cy ?_|refine cn ?_|refine ld hO 0 rfl rfl ?_|refine ld hO 1 rfl rfl ?_|refine ld hO 2 rfl rfl ?_|refine ld hO 3 rfl rfl ?_|refine ld hO 4 rfl rfl ?_|refine ld hO 5 rfl rfl ?_)
  have hn:=r3.lt
  refine zCa (zdJ (by omega) (by omega)) ?_
  refine zva (fun l' H'=>l'=[int 0,int y,ptr p5 0,.int .i32 n,.bool (zEI ds[y]),sl pv 0 ds.length cv,int ds.length,int y]∧H=H') ?_ ?_
  ·repeat (first|refine oi ?_|refine ow ?_|refine wy ?_|refine wn ?_|refine wt ?_|refine wf' ?_|refine cy ?_|refine cn ?_|refine ld hO 0 rfl rfl ?_|refine ld hO 1 rfl rfl ?_|refine ld hO 2 rfl rfl ?_|refine ld hO 3 rfl rfl ?_|refine ld hO 4 rfl rfl ?_|refine ld hO 5 rfl rfl ?_)
   rw[r3.let']
   cases br with
   | true=>
    refine zXa rfl ?_
    repeat (first|refine oi ?_|refine ow ?_|refine wy ?_|refine wn ?_|refine wt ?_|refine wf' ?_|refine cy ?_|refine cn ?_)
    exact⟨(by first|rfl|trivial),(by first|rfl|trivial)⟩
   | false=>
    refine zsc rfl ?_
    refine zCv (by omega) (by omega) ?_
    repeat (first|refine oi ?_|refine ow ?_|refine wy ?_|refine wn ?_|refine wt ?_|refine wf' ?_|refine cy ?_|refine cn ?_)
    exact⟨(by first|rfl|trivial),(by first|rfl|trivial)⟩
  rintro l' H' ⟨rfl,rfl⟩
  try simp only[zia,zja]
  refine zva (fun l' H'=>l'=[int 0,.bool (okR ds[y] (y == 0)),sl pv 0 ds.length cv,int ds.length,int y]∧H=H') ?_ ?_
  ·rw[r3.let',r3.ok]
   refine zaa zLf ?_
   refine zna (fun h0=>?_) (fun h0=>?_)
   ·have e0:(y == 0)=false:=by simp; omega
    rw[e0]
    repeat (first|refine oi ?_|refine ow ?_|refine wy ?_|refine wn ?_|refine wt ?_|refine wf' ?_|refine cy ?_|refine cn ?_|refine ld hO 0 rfl rfl ?_|refine ld hO 1 rfl rfl ?_|refine ld hO 2 rfl rfl ?_|refine ld hO 3 rfl rfl ?_|refine ld hO 4 rfl rfl ?_|refine ld hO 5 rfl rfl ?_)
    cases br with
    | true=>
     refine zXa rfl ?_
     repeat (first|refine oi ?_|refine ow ?_|refine wy ?_|refine wn ?_|refine wt ?_|refine wf' ?_|refine cy ?_|refine cn ?_)
     exact⟨(by first|rfl|trivial),(by first|rfl|trivial)⟩
    | false=>
     refine zsc rfl ?_
     refine zby (by omega) (by omega) ?_
     refine zEc (fun hd=>?_) (fun hd=>?_)
     ·rw[hd]
      repeat (first|refine oi ?_|refine ow ?_|refine wy ?_|refine wn ?_|refine wt ?_|refine wf' ?_|refine cy ?_|refine cn ?_)
      exact⟨by simp,(by first|rfl|trivial)⟩
     ·rw[hd]
      repeat (first|refine oi ?_|refine ow ?_|refine wy ?_|refine wn ?_|refine wt ?_|refine wf' ?_|refine cy ?_|refine cn ?_|refine ld hO 0 rfl rfl ?_|refine ld hO 1 rfl rfl ?_|refine ld hO 2 rfl rfl ?_|refine ld hO 3 rfl rfl ?_|refine ld hO 4 rfl rfl ?_|refine ld hO 5 rfl rfl ?_)
      refine zaa (show _=some (.bool (bt == [45])) from rfl) ?_
      refine zaa zVa ?_
      refine zEc (fun h1=>?_) (fun h1=>?_)
      ·rw[h1]
       repeat (first|refine oi ?_|refine ow ?_|refine wy ?_|refine wn ?_|refine wt ?_|refine wf' ?_|refine cy ?_|refine cn ?_)
       exact⟨by simp,(by first|rfl|trivial)⟩
      ·rw[h1]
       repeat (first|refine oi ?_|refine ow ?_|refine wy ?_|refine wn ?_|refine wt ?_|refine wf' ?_|refine cy ?_|refine cn ?_|refine ld hO 0 rfl rfl ?_|refine ld hO 1 rfl rfl ?_|refine ld hO 2 rfl rfl ?_|refine ld hO 3 rfl rfl ?_|refine ld hO 4 rfl rfl ?_|refine ld hO 5 rfl rfl ?_)
       refine zaa (show _=some (.bool (bt == [95])) from rfl) ?_
       refine zaa zVa ?_
       refine zEc (fun h2=>?_) (fun h2=>?_)
       ·rw[h2]
        repeat (first|refine oi ?_|refine ow ?_|refine wy ?_|refine wn ?_|refine wt ?_|refine wf' ?_|refine cy ?_|refine cn ?_)
        exact⟨by simp,(by first|rfl|trivial)⟩
       ·rw[h2]
        repeat (first|refine oi ?_|refine ow ?_|refine wy ?_|refine wn ?_|refine wt ?_|refine wf' ?_|refine cy ?_|refine cn ?_|refine ld hO 0 rfl rfl ?_|refine ld hO 1 rfl rfl ?_|refine ld hO 2 rfl rfl ?_|refine ld hO 3 rfl rfl ?_|refine ld hO 4 rfl rfl ?_|refine ld hO 5 rfl rfl ?_)
        refine zaa (show _=some (.bool (bt == [46])) from rfl) ?_
        refine zaa zVa ?_
        repeat (first|refine oi ?_|refine ow ?_|refine wy ?_|refine wn ?_|refine wt ?_|refine wf' ?_|refine cy ?_|refine cn ?_)
        refine zEc (fun h3=>?_) (fun h3=>?_)
        ·rw[h3]
         exact⟨by simp,(by first|rfl|trivial)⟩
        ·rw[h3]
         exact⟨by simp,(by first|rfl|trivial)⟩
   ·have e0:(y == 0)=true:=by simp; omega
    rw[e0]
    repeat (first|refine oi ?_|refine ow ?_|refine wy ?_|refine wn ?_|refine wt ?_|refine wf' ?_|refine cy ?_|refine cn ?_)
    exact⟨by simp,(by first|rfl|trivial)⟩
  rintro l' H' ⟨rfl,rfl⟩
  try simp only[zia,zja]
  refine zaa zmc ?_
  cases hz:okR ds[y] (y == 0) with
  | false=>
   rw[hz] at hok
   refine zsc rfl ?_
   exact hk0 hok _ hO.left
  | true=>
   rw[hz] at hok
   refine zXa rfl ?_
   repeat (first|refine oi ?_|refine ow ?_|refine wy ?_|refine wn ?_|refine wt ?_|refine wf' ?_|refine cy ?_|refine cn ?_)
   refine⟨ds.length - (y+1),by omega,y+1,by omega,rfl,rfl,?_,?_⟩
   ·rw[hΓ]; exact zWF (A:=[(pv,⟨rnC ds,true⟩)]) hO
   ·rw[hok]; rfl
 ·have e:y=ds.length:=by omega
  subst e
  rw[List.drop_of_length_le (Nat.le_refl _)] at hok
  exact hk1 hok _ hO.left
theorem zVp(hl:l.length≤1000000)(hO:St H Γ)(hk:∀ H',St H' Γ→K (int (nm4 l)) H'):wCall P zYe [str l] H K:=by
 apply zts; unfold zbr
 refine zpy hl hO ?_
 clear hO
 intro H v hO hv
 have hsl:(zhx l).length≤l.length:=zix _ _
 unfold nm4 at hk
 generalize zhx l=ds at *
 refine zva (fun l' H'=>l'=[int 0,v]∧H=H'∧¬ (ds.length=0∨ds.length > 24)) ?_ ?_
 ·refine zCa hv.lenSl ?_
  refine zaa zib ?_
  refine zna (fun h=>?_) (fun h=>?_)
  ·repeat (first|refine oi ?_|refine ow ?_|refine wy ?_|refine wn ?_|refine wt ?_|refine wf' ?_|refine cy ?_|refine cn ?_)
   have:=hk H hO.left
   rw[if_pos (.inl (by omega))] at this
   exact this
  ·refine zCa hv.lenSl ?_
   refine zaa zLf ?_
   refine zaa (zuc h) ?_
   refine zna (fun h2=>?_) (fun h2=>?_)
   ·have:=hk H hO.left
    rw[if_pos (.inr (by omega))] at this
    exact this
   ·exact⟨rfl,rfl,by omega⟩
 rintro l' H' ⟨rfl,rfl,hn⟩
 try simp only[zia,zja]
 rw[if_neg hn] at hk
 refine zCa hv.lenSl ?_
 refine zVA (by omega) hv hO ?_ ?_
 ·intro h H hO
  rw[if_pos h] at hk
  exact hk H hO
 ·intro h H hO
  rw[if_neg (by rw[h]; simp)] at hk
  exact hk H hO
end J
set_option maxRecDepth 100000
namespace J
open Go Go.Ab
variable{l m:List UInt8}{ds:List (List UInt8)}
abbrev bsl(l:List UInt8):ByteArray:=⟨l.toArray⟩
theorem zJH(l:List UInt8)(k:Nat):((bsl l).get! k).toNat=cb l k:=by
 show ((l.toArray)[k]!).toNat=(l.getD k 0).toNat
 rw[List.getD_eq_getElem?_getD]
 by_cases h:k < l.length
 ·rw[getElem!_pos _ _ (by simpa using h),List.getElem?_eq_getElem h]; rfl
 ·rw[getElem!_neg _ _ (by simpa using h),List.getElem?_eq_none (by omega)]; rfl
theorem zom(l:List UInt8):(bsl l).size=l.length:=rfl
set_option maxHeartbeats 4000000 in
theorem zKH(hl:l≠[]):(o4 l=none→Utf8.decode (bsl l) 0=(65533,1))∧(∀ r,o4 l=some r→Utf8.decode (bsl l) 0=r):=by
 have hl1:0 < l.length:=List.length_pos_iff.2 hl
 have c0:=zqk l 0
 have c1:=zqk l 1
 have c2:=zqk l 2
 have c3:=zqk l 3
 have key:Utf8.decode (bsl l) 0=(o4 l).getD (65533,1):=by
  unfold Utf8.decode
  simp only[Nat.zero_add,zJH,zom,Utf8.runeError,Utf8.valid]
  unfold o4 zgx
  have hi:∀ c,(decide (isC c)=true)=(128≤c∧c≤191):=fun c=>by rw[decide_eq_true_eq]; rfl
  simp only[zoy,nP,hi,Bool.true_and,Bool.and_eq_true,decide_eq_true_eq,beq_iff_eq,Nat.add_one_sub_one,Nat.reduceSub,Nat.reduceAdd]
  generalize cb l 0=a at *
  generalize cb l 1=b at *
  generalize cb l 2=c at *
  generalize cb l 3=d at *
  generalize l.length=n at *
  simp only[Bool.or_eq_true,Bool.and_eq_true,decide_eq_true_eq]
  repeat' split
  all_goals simp only[Option.getD_some,Option.getD_none]
  all_goals first
   | rfl
   | (exfalso; omega)
   | (refine Prod.ext ?_ rfl; show (_:Nat)=_; omega)
 constructor
 ·intro h; rw[key,h]; rfl
 ·intro r h; rw[key,h]; rfl
theorem zfJ{r:Nat × Nat}(h:o4 l=some r):¬ (r.1=65533∧r.2=1):=by
 have:=zqk l 0
 unfold o4 at h
 split at h
 ·cases h; simp only; omega
 split at h
 ·have:=(zFf h).2; omega
 split at h
 ·have:=(zFf h).2; omega
 split at h
 ·have:=(zFf h).2; omega
 ·cases h
theorem zRv{size n0 least:Nat}{r:Nat × Nat}(h:zgx l size n0 least=some r):least≤r.1:=by
 unfold zgx at h
 split at h
 ·cases h
 ·split at h
  ·split at h
   ·cases h
   ·cases h; simp only; omega
  ·cases h
theorem zLH{r:Nat × Nat}(h:o4 l=some r):(r.1 < 128→r.2=1∧r.1=cb l 0)∧(r.2=1→r.1=cb l 0∧r.1 < 128):=by
 have:=zqk l 0
 unfold o4 at h
 split at h
 ·cases h; exact⟨fun _=>⟨rfl,rfl⟩,fun _=>⟨rfl,by assumption⟩⟩
 split at h
 ·have:=(zFf h).2; have:=zRv h; exact⟨fun _=>by omega,fun _=>by omega⟩
 split at h
 ·have:=(zFf h).2; have:=zRv h; exact⟨fun _=>by omega,fun _=>by omega⟩
 split at h
 ·have:=(zFf h).2; have:=zRv h; exact⟨fun _=>by omega,fun _=>by omega⟩
 ·cases h
theorem zSv{r:Nat × Nat}(hl:l≠[])(h:o4 l=some r)(c:UInt8)(hc:c.toNat < 128):(l.take r.2 == [c])=((r.1:Int) == (c.toNat:Int)):=by
 obtain⟨h1,h2⟩:=zLH h
 obtain⟨w1,w2,w3⟩:=zyE h hl
 match l,hl with
 | a::t,_=>
 have ha:cb (a::t) 0=a.toNat:=rfl
 rw[Bool.eq_iff_iff,beq_iff_eq,beq_iff_eq]
 constructor
 ·intro e
  have hw:r.2=1:=by
   have:=congrArg List.length e
   rw[List.length_take] at this
   simp at this
   simp at w3
   omega
  rw[hw] at e
  have e:[a]=[c]:=by simpa using e
  cases e
  have:=(h2 hw).1
  rw[this,ha]
 ·intro e
  have hr:r.1=c.toNat:=by omega
  obtain⟨hw,hq⟩:=h1 (by omega)
  rw[hw]
  have:a=c:=by
   apply UInt8.toNat_inj.1
   omega
  simp[this]
theorem zaG(l:List UInt8)(pos i:Nat)(hp:pos < l.length):Seal.badF (bsl l) pos i=!okR (l.drop pos) (i == 0)∧(Utf8.decode (bsl l) pos).2=wid (l.drop pos):=by
 have hne:l.drop pos≠[]:=by
  intro h
  have:=congrArg List.length h
  simp at this
  omega
 have hx:(bsl l).extract pos (bsl l).size=bsl (l.drop pos):=by
  apply ByteArray.ext
  apply Array.ext'
  show _=l.drop pos
  rw[ByteArray.data_extract,Array.toList_extract]
  simp only[List.extract,zom]
  exact List.take_of_length_le (by simp)
 have ht:=Go.Lib.tail_decode (bsl l) pos 0
 rw[hx,Nat.add_zero] at ht
 obtain⟨d0,d1⟩:=zKH hne
 have hz:(((i:Int)) == 0)=(i == 0):=by cases i <;> rfl
 unfold Seal.badF Seal.brF
 rw[hx]
 have hgo:Go.Lib.decodeGo (bsl (l.drop pos))=Utf8.decode (bsl (l.drop pos)) 0:=by
  unfold Go.Lib.decodeGo
  rw[if_neg (by rw[zom]; intro h; exact hne (List.length_eq_zero_iff.1 h))]
 rw[hgo,← ht,hz]
 cases ho:o4 (l.drop pos) with
 | none=>
  rw[d0 ho]
  unfold okR wid
  rw[ho]
  exact⟨rfl,rfl⟩
 | some r=>
  rw[d1 r ho]
  refine⟨?_,by unfold wid; rw[ho]⟩
  have hfd:=zfJ ho
  rw[decide_eq_false (show ¬ ((r.1:Int)=65533∧r.2=1) by omega),Bool.false_or]
  unfold okR Seal.partF
  rw[ho]
  simp only
  rw[zSv hne ho 45 (by decide),zSv hne ho 95 (by decide),zSv hne ho 46 (by decide)]
  show (!_)=!_
  congr 2
  rw[show ((45:UInt8).toNat:Int)=45 from rfl,show ((95:UInt8).toNat:Int)=95 from rfl,show ((46:UInt8).toNat:Int)=46 from rfl]
  simp only[Bool.or_assoc]
theorem zzE(l:List UInt8):∀ (b pos i:Nat),pos≤l.length→Seal.nmF (bsl l) b pos i=if zen i (zIy b (l.drop pos))=true then Seal.finF ((i+(zIy b (l.drop pos)).length:Nat):Int) else 41
 | 0,pos,i,_=>by
  show Seal.finF i=if zen i []=true then Seal.finF ((i+0:Nat):Int) else 41
  rfl
 | b+1,pos,i,hp=>by
  unfold Seal.nmF zIy
  by_cases h:pos < l.length
  ·obtain⟨h1,h2⟩:=zaG l pos i h
   have hne:l.drop pos≠[]:=by
    intro h
    have:=congrArg List.length h
    simp at this
    omega
   have hw:=zUA hne
   rw[List.length_drop] at hw
   rw[if_pos (show pos < (bsl l).size from h),if_neg hne,h1,h2]
   cases ho:okR (l.drop pos) (i == 0) with
   | false=>
    rw[if_pos (show (!false)=true from rfl),if_neg]
    show ¬ (okR (l.drop pos) (i == 0) && zen (i+1) _)=true
    rw[ho]; simp
   | true=>
    rw[if_neg (show ¬ (!true)=true by simp)]
    have ih:=zzE l b (pos+wid (l.drop pos)) (i+1) (by omega)
    rw[show ((i:Int)+1)=((i+1:Nat):Int) by omega,ih,List.drop_drop]
    show _=if (okR (l.drop pos) (i == 0) && zen (i+1) _)=true then _ else _
    rw[ho,Bool.true_and,List.length_cons,show i+((zIy b (l.drop (pos+wid (l.drop pos)))).length+1)=i+1+(zIy b (l.drop (pos+wid (l.drop pos)))).length by omega]
  ·have hnil:l.drop pos=[]:=List.drop_of_length_le (by omega)
   rw[if_neg (show ¬ pos < (bsl l).size from h),if_pos hnil]
   rfl
theorem zMH(l:List UInt8):nm4 l=Seal.nmF (bsl l) (bsl l).size 0 0:=by
 have:=zzE l l.length 0 0 (Nat.zero_le _)
 rw[List.drop_zero,Nat.zero_add] at this
 rw[zom]
 refine Eq.trans ?_ this.symm
 unfold nm4 Seal.finF
 show _=if zen 0 (zhx l)=true then (if (((zhx l).length:Nat):Int) < 1∨(((zhx l).length:Nat):Int) > 24 then 41 else 0) else 41
 by_cases h1:(zhx l).length=0∨(zhx l).length > 24
 ·rw[if_pos h1]
  split
  ·rw[if_pos (by omega)]
  ·rfl
 ·rw[if_neg h1]
  split
  ·rw[if_neg (by omega)]
  ·rfl
end J
set_option maxRecDepth 100000
namespace J
open Go Go.Ab
variable{H:Heap}{Γ Γ0 Γ2 Δ G L:List (Nat × Blk)}{K:VH}{v w x cv dv:Value}{xs ys zs bs b key ms:List Int}{j p q o n k:Nat}{e:Int}{cs cs':List Value}{l:List UInt8}
structure Mf where
 pr:List UInt8
 ver:Nat
 sz:Int
 ck:Int
 dg:List Int
 cks:List (List Int)
abbrev By(xs:List Int):Prop:=∀ x ∈ xs,0≤x∧x≤255
structure Mf.Ok (m:Mf):Prop where
 dl:m.dg.length=32
 db:By m.dg
 cl:∀ x ∈ m.cks,x.length=32
 cb:∀ x ∈ m.cks,By x
 ver:m.ver < 18446744073709551616
 sz:-9223372036854775808≤m.sz∧m.sz≤9223372036854775807
 ck:-9223372036854775808≤m.ck∧m.ck≤9223372036854775807
 n:m.cks.length≤10000
 pl:m.pr.length≤10000
def mfC(m:Mf)(cv:Value):List Value:=str m.pr::zsb .u64 m.ver::int m.sz::int m.ck::(by8 m.dg++[cv])
abbrev hsC(l:List (List Int)):List Value:=l.flatMap by8
def RdH(Γ:List (Nat × Blk))(v:Value)(cks:List (List Int)):Prop:=
 (v=zBa∧cks=[])∨∃ (p c j:Nat) (w:Bool),v=sl p 0 cks.length c∧Γ[j]?=some (p,(⟨hsC cks,w⟩:Blk))
variable{m:Mf}{cks:List (List Int)}
theorem RdH.lenSl(h:RdH Γ v cks):lenSl v H=some (int cks.length,H):=by
 rcases h with⟨rfl,rfl⟩|⟨p,c,j,w,rfl,_⟩ <;> rfl
theorem RdH.shape(h:RdH Γ v cks):∃ a n c,v=.slice a n c:=by
 rcases h with⟨rfl,_⟩|⟨p,c,j,w,rfl,_⟩ <;> exact⟨_,_,_,rfl⟩
theorem RdH.app(h:RdH Γ v cks):RdH (Γ++Δ) v cks:=by
 rcases h with h|⟨p,c,j,w,h1,h2⟩
 ·exact .inl h
 ·exact .inr ⟨p,c,j,w,h1,zwa h2⟩
theorem RdH.app'(h:RdH Δ v cks):RdH (Γ++Δ) v cks:=by
 rcases h with h|⟨p,c,j,w,h1,h2⟩
 ·exact .inl h
 ·exact .inr ⟨p,c,Γ.length+j,w,h1,zua h2⟩
theorem RdH.pos(h:RdH Γ v cks)(h0:0 < cks.length):∃ (p c j:Nat) (w:Bool),v=sl p 0 cks.length c∧Γ[j]?=some (p,(⟨hsC cks,w⟩:Blk)):=by
 rcases h with⟨_,rfl⟩|h
 ·simp at h0
 ·exact h
theorem zUa(hd:m.dg.length=32):(mfC m cv).length=37:=by simp[mfC,hd]
theorem zMn(hd:m.dg.length=32):(mfC m cv)[0+36]?=some cv:=by
 show (by8 m.dg++[cv])[32]?=_
 rw[List.getElem?_append_right (by simp[hd])]
 simp[hd]
theorem zml(hc:oneCell cv=true):(mfC m cv).all oneCell=true:=by
 show (true && (true && (true && (true && (by8 m.dg++[cv]).all oneCell))))=true
 rw[List.all_append,zvd]
 simp[hc]
theorem zIh(hc:zSa cv=true):(mfC m cv).all zSa=true:=by
 show (true && (true && (true && (true && (by8 m.dg++[cv]).all zSa))))=true
 rw[List.all_append,zfr]
 simp[hc]
theorem RdH.one(h:RdH Γ v cks):oneCell v=true:=by obtain⟨a,n,c,rfl⟩:=h.shape; rfl
theorem RdH.simple(h:RdH Γ v cks):zSa v=true:=by
 rcases h with⟨rfl,_⟩|⟨p,c,j,w,rfl,_⟩ <;> rfl
theorem zDo:zya (agg (mfC m cv))=mfC m cv:=rfl
def cnt(s c:Int):Int:=if s < 1∨c < 1 then 0 else (s - 1) / c+1
theorem zlr{s c:Int}:0≤cnt s c:=by
 unfold cnt
 split
 ·omega
 ·have:=Int.ediv_nonneg (show 0≤s - 1 by omega) (show 0≤c by omega)
  omega
theorem zNH{s c:Nat}(hs:1≤s)(hc:1≤c):(s - 1) / c+1=s / c+(if s % c > 0 then 1 else 0):=by
 have h1:=Nat.div_add_mod s c
 have h2:=Nat.mod_lt s hc
 generalize s / c=Q at *
 generalize s % c=R at *
 subst h1
 by_cases hr:R=0
 ·subst hr
  rw[if_neg (by omega)]
  have hq:1≤Q:=by
   rcases Nat.eq_zero_or_pos Q with rfl|h
   ·simp at hs
   ·exact h
  obtain⟨t,rfl⟩:∃ t,Q=t+1:=⟨Q - 1,by omega⟩
  have:c * (t+1)+0 - 1=c * t+(c - 1):=by rw[Nat.mul_succ]; omega
  rw[this,Nat.mul_add_div (by omega),Nat.div_eq_of_lt (by omega)]
 ·rw[if_pos (by omega)]
  have:c * Q+R - 1=c * Q+(R - 1):=by omega
  rw[this,Nat.mul_add_div (by omega),Nat.div_eq_of_lt (by omega)]
theorem zry{s c:Int}(hs:s≤9223372036854775807)(hc:c≤9223372036854775807)(hk:K (int (cnt s c)) H):wCall P zjf [int s,int c] H K:=by
 apply zYm; unfold zHk
 by_cases h1:s < 1
 ·refine zHd ?_
  repeat (first|refine oi ?_|refine ow ?_|refine wy ?_|refine wn ?_|refine wt ?_|refine wf' ?_|refine cy ?_|refine cn ?_)
  unfold cnt at hk
  rw[if_pos (.inl h1)] at hk
  exact hk
 by_cases h2:c < 1
 ·refine zHd ?_
  repeat (first|refine oi ?_|refine ow ?_|refine wy ?_|refine wn ?_|refine wt ?_|refine wf' ?_|refine cy ?_|refine cn ?_)
  unfold cnt at hk
  rw[if_pos (.inr h2)] at hk
  exact hk
 refine zva (fun l' H'=>l'=[int s,int c]∧H=H') ?_ ?_
 ·repeat (first|refine oi ?_|refine ow ?_|refine wy ?_|refine wn ?_|refine wt ?_|refine wf' ?_|refine cy ?_|refine cn ?_)
  exact⟨(by first|rfl|trivial),(by first|rfl|trivial)⟩
 rintro l' H' ⟨rfl,rfl⟩
 try simp only[zia,zja]
 obtain⟨S,rfl⟩:∃ S:Nat,s=S:=⟨s.toNat,by omega⟩
 obtain⟨C,rfl⟩:∃ C:Nat,c=C:=⟨c.toNat,by omega⟩
 unfold cnt at hk
 rw[if_neg (by omega)] at hk
 repeat (first|refine oi ?_|refine ow ?_|refine wy ?_|refine wn ?_|refine wt ?_|refine wf' ?_|refine cy ?_|refine cn ?_)
 refine zaa (v:=int (((S - 1) / C:Nat):Int)) (by rw[show (S:Int) - 1=((S - 1:Nat):Int) by omega]; exact zzD (by omega) (by omega)) ?_
 have hle:=Nat.div_le_self (S - 1) C
 rw[show ((S:Int) - 1) / C+1=(((S - 1) / C:Nat):Int)+1 by rw[show (S:Int) - 1=((S - 1:Nat):Int) by omega,Int.natCast_ediv]] at hk
 generalize (S - 1) / C=Q at *
 repeat (first|refine oi ?_|refine ow ?_|refine wy ?_|refine wn ?_|refine wt ?_|refine wf' ?_|refine cy ?_|refine cn ?_)
 exact hk
theorem zIi{s c:Int}(hs:s≤9223372036854775806)(hc:c≤9223372036854775807)(hk:K (int (cnt s c)) H):wCall P zBf [int s,int c] H K:=by
 apply ztq; unfold zxp
 by_cases h1:s < 1
 ·refine zHd ?_
  repeat (first|refine oi ?_|refine ow ?_|refine wy ?_|refine wn ?_|refine wt ?_|refine wf' ?_|refine cy ?_|refine cn ?_)
  unfold cnt at hk
  rw[if_pos (.inl h1)] at hk
  exact hk
 by_cases h2:c < 1
 ·refine zHd ?_
  repeat (first|refine oi ?_|refine ow ?_|refine wy ?_|refine wn ?_|refine wt ?_|refine wf' ?_|refine cy ?_|refine cn ?_)
  unfold cnt at hk
  rw[if_pos (.inr h2)] at hk
  exact hk
 refine zva (fun l' H'=>l'=[int s,int c]∧H=H') ?_ ?_
 ·repeat (first|refine oi ?_|refine ow ?_|refine wy ?_|refine wn ?_|refine wt ?_|refine wf' ?_|refine cy ?_|refine cn ?_)
  exact⟨(by first|rfl|trivial),(by first|rfl|trivial)⟩
 rintro l' H' ⟨rfl,rfl⟩
 try simp only[zia,zja]
 obtain⟨S,rfl⟩:∃ S:Nat,s=S:=⟨s.toNat,by omega⟩
 obtain⟨C,rfl⟩:∃ C:Nat,c=C:=⟨c.toNat,by omega⟩
 unfold cnt at hk
 rw[if_neg (by omega)] at hk
 have hup:=zNH (s:=S) (c:=C) (by omega) (by omega)
 have hle:=Nat.div_le_self S C
 rw[show ((S:Int) - 1) / C+1=(((S - 1) / C+1:Nat):Int) by rw[show (S:Int) - 1=((S - 1:Nat):Int) by omega]; rfl,hup] at hk
 refine zaa (zzD (by omega) (by omega)) ?_
 generalize S / C=Q at *
 refine zaa (zfs (by omega)) ?_
 rw[show (Int.tmod (S:Int) (C:Int))=((S % C:Nat):Int) from rfl]
 refine zaa zLf ?_
 refine zna (fun h=>?_) (fun h=>?_)
 ·rw[if_pos (by omega)] at hk
  repeat (first|refine oi ?_|refine ow ?_|refine wy ?_|refine wn ?_|refine wt ?_|refine wf' ?_|refine cy ?_|refine cn ?_)
  exact hk
 ·rw[if_neg (by omega)] at hk
  exact hk
def zjo(l:List UInt8):Int:=Seal.nmF (bsl l) (bsl l).size 0 0
def znb(m:Mf):Prop:=zjo m.pr=0∧1≤m.ver∧m.ver≤281474976710656∧1≤m.sz∧m.sz≤65536∧64≤m.ck∧m.ck≤1024∧m.ck % 64=0∧(m.cks.length:Int)=cnt m.sz m.ck∧m.cks.length≤64
instance (m:Mf):Decidable (znb m):=by unfold znb; exact inferInstance
theorem zsy(hl:l.length≤1000000)(hO:St H Γ)(hk:∀ H',St H' Γ→K (int (zjo l)) H'):wCall P zYe [str l] H K:=
 zVp hl hO fun H' h=>by rw[zMH]; exact hk H' h
theorem zbG(hl:l.length≤1000000)(hk:K (int (zjo l)) H):wCall P zjj [str l] H K:=
 ztp (by rw[zom]; omega) hk
set_option maxHeartbeats 4000000 in
theorem zmr(ok:m.Ok)(hc:RdH Γ cv m.cks)(hO:St H Γ)(hk:∀ H',St H' Γ→K (.bool (decide (znb m))) H'):wCall P zAd [agg (mfC m cv)] H K:=by
 apply zXm; unfold zGk
 have hno:∀ {H:Heap} {Δ},St H (Γ++Δ)→¬ znb m→K (.bool false) H:=fun h hn=>by
  have:=hk _ h.left
  rw[decide_eq_false hn] at this; exact this
 have hsz:=ok.sz
 have hck:=ok.ck
 have hv:=ok.ver
 have hl:=ok.n
 have h36:=zMn (cv:=cv) ok.dl
 rw[zDo]
 refine nw hO.z ?_
 clear hO
 intro p1 H hO
 replace hO:St H (Γ++[(p1,⟨mfC m cv,true⟩)]):=hO
 refine zva (fun l' H'=>l'=[ptr p1 0]∧H=H'∧zjo m.pr=0∧1≤m.ver∧m.ver≤281474976710656∧1≤m.sz∧m.sz≤65536∧64≤m.ck∧m.ck≤1024∧m.ck % 64=0) ?_ ?_
 ·refine zva (fun l' H'=>l'=[ptr p1 0,.bool (decide (¬ (zjo m.pr=0∧1≤m.ver∧m.ver≤281474976710656)))]∧H=H') ?_ ?_
  ·repeat (first|refine oi ?_|refine ow ?_|refine wy ?_|refine wn ?_|refine wt ?_|refine wf' ?_|refine cy ?_|refine cn ?_|refine ld hO 0 rfl rfl ?_|refine ld hO 1 rfl rfl ?_|refine ld hO 2 rfl rfl ?_|refine ld hO 3 rfl rfl ?_|refine ld hO 4 rfl rfl ?_|refine ld hO 5 rfl rfl ?_)
   refine zbG (by have:=ok.pl; omega) ?_
   refine zaa zGb ?_
   refine zna (fun h1=>?_) (fun h1=>?_)
   ·exact⟨by rw[decide_eq_decide.2 (show zjo m.pr≠0↔¬ (zjo m.pr=0∧1≤m.ver∧m.ver≤281474976710656) by omega)],(by first|rfl|trivial)⟩
   ·repeat (first|refine oi ?_|refine ow ?_|refine wy ?_|refine wn ?_|refine wt ?_|refine wf' ?_|refine cy ?_|refine cn ?_|refine ld hO 0 rfl rfl ?_|refine ld hO 1 rfl rfl ?_|refine ld hO 2 rfl rfl ?_|refine ld hO 3 rfl rfl ?_|refine ld hO 4 rfl rfl ?_|refine ld hO 5 rfl rfl ?_)
    refine zna (fun h2=>?_) (fun h2=>?_)
    ·exact⟨by rw[decide_eq_decide.2 (show ((m.ver:Int) < 1)↔¬ (zjo m.pr=0∧1≤m.ver∧m.ver≤281474976710656) by omega)],(by first|rfl|trivial)⟩
    ·repeat (first|refine oi ?_|refine ow ?_|refine wy ?_|refine wn ?_|refine wt ?_|refine wf' ?_|refine cy ?_|refine cn ?_|refine ld hO 0 rfl rfl ?_|refine ld hO 1 rfl rfl ?_|refine ld hO 2 rfl rfl ?_|refine ld hO 3 rfl rfl ?_|refine ld hO 4 rfl rfl ?_|refine ld hO 5 rfl rfl ?_)
     exact⟨by rw[decide_eq_decide.2 (show ((281474976710656:Int) < (m.ver:Int))↔¬ (zjo m.pr=0∧1≤m.ver∧m.ver≤281474976710656) by omega)],(by first|rfl|trivial)⟩
  rintro l' H' ⟨rfl,rfl⟩
  try simp only[zia,zja]
  refine zna (fun h1=>?_) (fun h1=>?_)
  ·exact hno hO (fun h=>h1 ⟨h.1,h.2.1,h.2.2.1⟩)
  refine zva (fun l' H'=>l'=[ptr p1 0,.bool (decide (¬ (1≤m.sz∧m.sz≤65536)))]∧H=H') ?_ ?_
  ·repeat (first|refine oi ?_|refine ow ?_|refine wy ?_|refine wn ?_|refine wt ?_|refine wf' ?_|refine cy ?_|refine cn ?_|refine ld hO 0 rfl rfl ?_|refine ld hO 1 rfl rfl ?_|refine ld hO 2 rfl rfl ?_|refine ld hO 3 rfl rfl ?_|refine ld hO 4 rfl rfl ?_|refine ld hO 5 rfl rfl ?_)
   refine zna (fun h2=>?_) (fun h2=>?_)
   ·repeat (first|refine oi ?_|refine ow ?_|refine wy ?_|refine wn ?_|refine wt ?_|refine wf' ?_|refine cy ?_|refine cn ?_|refine ld hO 0 rfl rfl ?_|refine ld hO 1 rfl rfl ?_|refine ld hO 2 rfl rfl ?_|refine ld hO 3 rfl rfl ?_|refine ld hO 4 rfl rfl ?_|refine ld hO 5 rfl rfl ?_)
    exact⟨by rw[decide_eq_true (show ¬ (1≤m.sz∧m.sz≤65536) by omega)],(by first|rfl|trivial)⟩
   ·repeat (first|refine oi ?_|refine ow ?_|refine wy ?_|refine wn ?_|refine wt ?_|refine wf' ?_|refine cy ?_|refine cn ?_|refine ld hO 0 rfl rfl ?_|refine ld hO 1 rfl rfl ?_|refine ld hO 2 rfl rfl ?_|refine ld hO 3 rfl rfl ?_|refine ld hO 4 rfl rfl ?_|refine ld hO 5 rfl rfl ?_)
    exact⟨by rw[decide_eq_decide.2 (show ((65536:Int) < m.sz)↔¬ (1≤m.sz∧m.sz≤65536) by omega)],(by first|rfl|trivial)⟩
  rintro l' H' ⟨rfl,rfl⟩
  try simp only[zia,zja]
  refine zna (fun h2=>?_) (fun h2=>?_)
  ·exact hno hO (fun h=>h2 ⟨h.2.2.2.1,h.2.2.2.2.1⟩)
  repeat (first|refine oi ?_|refine ow ?_|refine wy ?_|refine wn ?_|refine wt ?_|refine wf' ?_|refine cy ?_|refine cn ?_|refine ld hO 0 rfl rfl ?_|refine ld hO 1 rfl rfl ?_|refine ld hO 2 rfl rfl ?_|refine ld hO 3 rfl rfl ?_|refine ld hO 4 rfl rfl ?_|refine ld hO 5 rfl rfl ?_)
  refine zna (fun h3=>?_) (fun h3=>?_)
  ·repeat (first|refine oi ?_|refine ow ?_|refine wy ?_|refine wn ?_|refine wt ?_|refine wf' ?_|refine cy ?_|refine cn ?_|refine ld hO 0 rfl rfl ?_|refine ld hO 1 rfl rfl ?_|refine ld hO 2 rfl rfl ?_|refine ld hO 3 rfl rfl ?_|refine ld hO 4 rfl rfl ?_|refine ld hO 5 rfl rfl ?_)
   exact hno hO (fun h=>by have:=h.2.2.2.2.2.1; omega)
  repeat (first|refine oi ?_|refine ow ?_|refine wy ?_|refine wn ?_|refine wt ?_|refine wf' ?_|refine cy ?_|refine cn ?_|refine ld hO 0 rfl rfl ?_|refine ld hO 1 rfl rfl ?_|refine ld hO 2 rfl rfl ?_|refine ld hO 3 rfl rfl ?_|refine ld hO 4 rfl rfl ?_|refine ld hO 5 rfl rfl ?_)
  refine zna (fun h4=>?_) (fun h4=>?_)
  ·repeat (first|refine oi ?_|refine ow ?_|refine wy ?_|refine wn ?_|refine wt ?_|refine wf' ?_|refine cy ?_|refine cn ?_|refine ld hO 0 rfl rfl ?_|refine ld hO 1 rfl rfl ?_|refine ld hO 2 rfl rfl ?_|refine ld hO 3 rfl rfl ?_|refine ld hO 4 rfl rfl ?_|refine ld hO 5 rfl rfl ?_)
   exact hno hO (fun h=>by have:=h.2.2.2.2.2.2.1; omega)
  repeat (first|refine oi ?_|refine ow ?_|refine wy ?_|refine wn ?_|refine wt ?_|refine wf' ?_|refine cy ?_|refine cn ?_|refine ld hO 0 rfl rfl ?_|refine ld hO 1 rfl rfl ?_|refine ld hO 2 rfl rfl ?_|refine ld hO 3 rfl rfl ?_|refine ld hO 4 rfl rfl ?_|refine ld hO 5 rfl rfl ?_)
  have em:m.ck.tmod 64=m.ck % 64:=Int.tmod_eq_emod_of_nonneg (by omega)
  refine zaa (zfs (by omega)) ?_
  rw[em]
  repeat (first|refine oi ?_|refine ow ?_|refine wy ?_|refine wn ?_|refine wt ?_|refine wf' ?_|refine cy ?_|refine cn ?_|refine ld hO 0 rfl rfl ?_|refine ld hO 1 rfl rfl ?_|refine ld hO 2 rfl rfl ?_|refine ld hO 3 rfl rfl ?_|refine ld hO 4 rfl rfl ?_|refine ld hO 5 rfl rfl ?_)
  refine zna (fun h5=>?_) (fun h5=>?_)
  ·exact hno hO (fun h=>h5 h.2.2.2.2.2.2.2.1)
  ·refine⟨(by first|rfl|trivial),(by first|rfl|trivial),?_⟩
   omega
 rintro l' H' ⟨rfl,rfl,g1,g2,g3,g4,g5,g6,g7,g8⟩
 try simp only[zia,zja]
 refine zaa zca ?_
 refine ld hO 0 rfl h36 ?_
 refine zCa hc.lenSl ?_
 repeat (first|refine oi ?_|refine ow ?_|refine wy ?_|refine wn ?_|refine wt ?_|refine wf' ?_|refine cy ?_|refine cn ?_|refine ld hO 0 rfl rfl ?_|refine ld hO 1 rfl rfl ?_|refine ld hO 2 rfl rfl ?_|refine ld hO 3 rfl rfl ?_|refine ld hO 4 rfl rfl ?_|refine ld hO 5 rfl rfl ?_)
 refine zry (by omega) (by omega) ?_
 refine⟨same_at hO (Γ.length+0) (zua rfl) hO (Γ.length+0) (zua rfl) (zIh hc.simple),?_⟩
 refine zaa zib ?_
 refine zna (fun h6=>?_) (fun h6=>?_)
 ·refine zaa zca ?_
  refine ld hO 0 rfl h36 ?_
  refine zCa hc.lenSl ?_
  refine zaa zrv ?_
  refine zaa (zNb h6) ?_
  have:=hk _ hO.left
  rw[decide_eq_decide.2 (show znb m↔((m.cks.length:Int)≤64) from⟨fun h=>by have:=h.2.2.2.2.2.2.2.2.2; omega,fun h=>⟨g1,g2,g3,g4,g5,g6,g7,g8,h6,by omega⟩⟩)] at this
  exact this
 ·refine zaa (zuc h6) ?_
  exact hno hO (fun h=>h6 h.2.2.2.2.2.2.2.2.1)
set_option maxHeartbeats 4000000 in
theorem zJi(ok:m.Ok)(hc:RdH Γ cv m.cks)(hO:St H Γ)(hk:∀ H',St H' Γ→K (.bool (decide (znb m))) H'):wCall P zCf [agg (mfC m cv)] H K:=by
 apply zuq; unfold zyp
 have hno:∀ {H:Heap} {Δ},St H (Γ++Δ)→¬ znb m→K (.bool false) H:=fun h hn=>by
  have:=hk _ h.left
  rw[decide_eq_false hn] at this; exact this
 have hsz:=ok.sz
 have hck:=ok.ck
 have hv:=ok.ver
 have hl:=ok.n
 have h36:=zMn (cv:=cv) ok.dl
 rw[zDo]
 refine nw hO.z ?_
 clear hO
 intro p1 H hO
 replace hO:St H (Γ++[(p1,⟨mfC m cv,true⟩)]):=hO
 refine zva (fun l' H'=>l'=[ptr p1 0]∧St H' (Γ++[(p1,⟨mfC m cv,true⟩)])∧zjo m.pr=0∧1≤m.ver∧m.ver≤281474976710656∧1≤m.sz∧m.sz≤65536) ?_ ?_
 ·repeat (first|refine oi ?_|refine ow ?_|refine wy ?_|refine wn ?_|refine wt ?_|refine wf' ?_|refine cy ?_|refine cn ?_|refine ld hO 0 rfl rfl ?_|refine ld hO 1 rfl rfl ?_|refine ld hO 2 rfl rfl ?_|refine ld hO 3 rfl rfl ?_|refine ld hO 4 rfl rfl ?_|refine ld hO 5 rfl rfl ?_)
  refine zsy (by have:=ok.pl; omega) hO ?_
  clear hO
  intro H hO
  refine zaa zGb ?_
  refine zna (fun h1=>?_) (fun h1=>?_)
  ·repeat (first|refine oi ?_|refine ow ?_|refine wy ?_|refine wn ?_|refine wt ?_|refine wf' ?_|refine cy ?_|refine cn ?_|refine ld hO 0 rfl rfl ?_|refine ld hO 1 rfl rfl ?_|refine ld hO 2 rfl rfl ?_|refine ld hO 3 rfl rfl ?_|refine ld hO 4 rfl rfl ?_|refine ld hO 5 rfl rfl ?_)
   exact hno hO (fun h=>h1 h.1)
  repeat (first|refine oi ?_|refine ow ?_|refine wy ?_|refine wn ?_|refine wt ?_|refine wf' ?_|refine cy ?_|refine cn ?_|refine ld hO 0 rfl rfl ?_|refine ld hO 1 rfl rfl ?_|refine ld hO 2 rfl rfl ?_|refine ld hO 3 rfl rfl ?_|refine ld hO 4 rfl rfl ?_|refine ld hO 5 rfl rfl ?_)
  refine zna (fun h2=>?_) (fun h2=>?_)
  ·repeat (first|refine oi ?_|refine ow ?_|refine wy ?_|refine wn ?_|refine wt ?_|refine wf' ?_|refine cy ?_|refine cn ?_|refine ld hO 0 rfl rfl ?_|refine ld hO 1 rfl rfl ?_|refine ld hO 2 rfl rfl ?_|refine ld hO 3 rfl rfl ?_|refine ld hO 4 rfl rfl ?_|refine ld hO 5 rfl rfl ?_)
   exact hno hO (fun h=>by have:=h.2.1; omega)
  repeat (first|refine oi ?_|refine ow ?_|refine wy ?_|refine wn ?_|refine wt ?_|refine wf' ?_|refine cy ?_|refine cn ?_|refine ld hO 0 rfl rfl ?_|refine ld hO 1 rfl rfl ?_|refine ld hO 2 rfl rfl ?_|refine ld hO 3 rfl rfl ?_|refine ld hO 4 rfl rfl ?_|refine ld hO 5 rfl rfl ?_)
  refine zna (fun h3=>?_) (fun h3=>?_)
  ·repeat (first|refine oi ?_|refine ow ?_|refine wy ?_|refine wn ?_|refine wt ?_|refine wf' ?_|refine cy ?_|refine cn ?_|refine ld hO 0 rfl rfl ?_|refine ld hO 1 rfl rfl ?_|refine ld hO 2 rfl rfl ?_|refine ld hO 3 rfl rfl ?_|refine ld hO 4 rfl rfl ?_|refine ld hO 5 rfl rfl ?_)
   exact hno hO (fun h=>by have:=h.2.2.1; omega)
  repeat (first|refine oi ?_|refine ow ?_|refine wy ?_|refine wn ?_|refine wt ?_|refine wf' ?_|refine cy ?_|refine cn ?_|refine ld hO 0 rfl rfl ?_|refine ld hO 1 rfl rfl ?_|refine ld hO 2 rfl rfl ?_|refine ld hO 3 rfl rfl ?_|refine ld hO 4 rfl rfl ?_|refine ld hO 5 rfl rfl ?_)
  refine zna (fun h4=>?_) (fun h4=>?_)
  ·repeat (first|refine oi ?_|refine ow ?_|refine wy ?_|refine wn ?_|refine wt ?_|refine wf' ?_|refine cy ?_|refine cn ?_|refine ld hO 0 rfl rfl ?_|refine ld hO 1 rfl rfl ?_|refine ld hO 2 rfl rfl ?_|refine ld hO 3 rfl rfl ?_|refine ld hO 4 rfl rfl ?_|refine ld hO 5 rfl rfl ?_)
   exact hno hO (fun h=>by have:=h.2.2.2.1; omega)
  repeat (first|refine oi ?_|refine ow ?_|refine wy ?_|refine wn ?_|refine wt ?_|refine wf' ?_|refine cy ?_|refine cn ?_|refine ld hO 0 rfl rfl ?_|refine ld hO 1 rfl rfl ?_|refine ld hO 2 rfl rfl ?_|refine ld hO 3 rfl rfl ?_|refine ld hO 4 rfl rfl ?_|refine ld hO 5 rfl rfl ?_)
  refine zna (fun h5=>?_) (fun h5=>?_)
  ·exact hno hO (fun h=>by have:=h.2.2.2.2.1; omega)
  ·exact⟨rfl,hO,by omega⟩
 clear hO
 rintro l' H ⟨rfl,hO,g1,g2,g3,g4,g5⟩
 try simp only[zia,zja]
 refine zva (fun l' H'=>l'=[ptr p1 0]∧H=H'∧64≤m.ck∧m.ck≤1024∧m.ck % 64=0) ?_ ?_
 ·repeat (first|refine oi ?_|refine ow ?_|refine wy ?_|refine wn ?_|refine wt ?_|refine wf' ?_|refine cy ?_|refine cn ?_|refine ld hO 0 rfl rfl ?_|refine ld hO 1 rfl rfl ?_|refine ld hO 2 rfl rfl ?_|refine ld hO 3 rfl rfl ?_|refine ld hO 4 rfl rfl ?_|refine ld hO 5 rfl rfl ?_)
  refine zna (fun h3=>?_) (fun h3=>?_)
  ·repeat (first|refine oi ?_|refine ow ?_|refine wy ?_|refine wn ?_|refine wt ?_|refine wf' ?_|refine cy ?_|refine cn ?_|refine ld hO 0 rfl rfl ?_|refine ld hO 1 rfl rfl ?_|refine ld hO 2 rfl rfl ?_|refine ld hO 3 rfl rfl ?_|refine ld hO 4 rfl rfl ?_|refine ld hO 5 rfl rfl ?_)
   exact hno hO (fun h=>by have:=h.2.2.2.2.2.1; omega)
  repeat (first|refine oi ?_|refine ow ?_|refine wy ?_|refine wn ?_|refine wt ?_|refine wf' ?_|refine cy ?_|refine cn ?_|refine ld hO 0 rfl rfl ?_|refine ld hO 1 rfl rfl ?_|refine ld hO 2 rfl rfl ?_|refine ld hO 3 rfl rfl ?_|refine ld hO 4 rfl rfl ?_|refine ld hO 5 rfl rfl ?_)
  refine zna (fun h4=>?_) (fun h4=>?_)
  ·repeat (first|refine oi ?_|refine ow ?_|refine wy ?_|refine wn ?_|refine wt ?_|refine wf' ?_|refine cy ?_|refine cn ?_|refine ld hO 0 rfl rfl ?_|refine ld hO 1 rfl rfl ?_|refine ld hO 2 rfl rfl ?_|refine ld hO 3 rfl rfl ?_|refine ld hO 4 rfl rfl ?_|refine ld hO 5 rfl rfl ?_)
   exact hno hO (fun h=>by have:=h.2.2.2.2.2.2.1; omega)
  repeat (first|refine oi ?_|refine ow ?_|refine wy ?_|refine wn ?_|refine wt ?_|refine wf' ?_|refine cy ?_|refine cn ?_|refine ld hO 0 rfl rfl ?_|refine ld hO 1 rfl rfl ?_|refine ld hO 2 rfl rfl ?_|refine ld hO 3 rfl rfl ?_|refine ld hO 4 rfl rfl ?_|refine ld hO 5 rfl rfl ?_)
  have em:m.ck.tmod 64=m.ck % 64:=Int.tmod_eq_emod_of_nonneg (by omega)
  refine zaa (zfs (by omega)) ?_
  rw[em]
  repeat (first|refine oi ?_|refine ow ?_|refine wy ?_|refine wn ?_|refine wt ?_|refine wf' ?_|refine cy ?_|refine cn ?_|refine ld hO 0 rfl rfl ?_|refine ld hO 1 rfl rfl ?_|refine ld hO 2 rfl rfl ?_|refine ld hO 3 rfl rfl ?_|refine ld hO 4 rfl rfl ?_|refine ld hO 5 rfl rfl ?_)
  refine zna (fun h5=>?_) (fun h5=>?_)
  ·exact hno hO (fun h=>h5 h.2.2.2.2.2.2.2.1)
  ·refine⟨(by first|rfl|trivial),(by first|rfl|trivial),?_⟩
   omega
 rintro l' H' ⟨rfl,rfl,g6,g7,g8⟩
 try simp only[zia,zja]
 refine zaa zca ?_
 refine ld hO 0 rfl h36 ?_
 refine zCa hc.lenSl ?_
 refine zaa zrv ?_
 refine zna (fun h6=>?_) (fun h6=>?_)
 ·refine zaa zca ?_
  refine ld hO 0 rfl h36 ?_
  refine zCa hc.lenSl ?_
  repeat (first|refine oi ?_|refine ow ?_|refine wy ?_|refine wn ?_|refine wt ?_|refine wf' ?_|refine cy ?_|refine cn ?_|refine ld hO 0 rfl rfl ?_|refine ld hO 1 rfl rfl ?_|refine ld hO 2 rfl rfl ?_|refine ld hO 3 rfl rfl ?_|refine ld hO 4 rfl rfl ?_|refine ld hO 5 rfl rfl ?_)
  refine zIi (by omega) (by omega) ?_
  refine⟨same_at hO (Γ.length+0) (zua rfl) hO (Γ.length+0) (zua rfl) (zIh hc.simple),?_⟩
  refine zaa zib ?_
  refine zaa (zNb h6) ?_
  have:=hk _ hO.left
  rw[decide_eq_decide.2 (show znb m↔((m.cks.length:Int)=cnt m.sz m.ck) from⟨fun h=>h.2.2.2.2.2.2.2.2.1,fun h=>⟨g1,g2,g3,g4,g5,g6,g7,g8,h,by omega⟩⟩)] at this
  exact this
 ·refine zaa (zuc h6) ?_
  exact hno hO (fun h=>by have:=h.2.2.2.2.2.2.2.2.2; omega)
end J
set_option maxRecDepth 100000
namespace J
open Go Go.Ab
variable{H:Heap}{Γ Γ0 Γ2 Δ G L:List (Nat × Blk)}{K:VH}{v w x cv dv:Value}{xs ys zs bs b key ms:List Int}{j p q o n k:Nat}{e:Int}{cs cs':List Value}{l:List UInt8}{m:Mf}{cks:List (List Int)}
end J
set_option maxRecDepth 100000
namespace J
open Go Go.Ab
variable{H:Heap}{Γ Γ0 Γ2 Δ G L:List (Nat × Blk)}{K:VH}{v w x cv dv:Value}{xs ys zs bs b key ms:List Int}{j p q o n k:Nat}{e:Int}{cs cs':List Value}{l:List UInt8}{m a:Mf}{cks:List (List Int)}
def kH:List CK:=List.replicate 32 (.i .u8)
theorem fH:flatK P 100 28=some kH:=by kernel_rfl
theorem zIJ{s:List Int}(h:s.length=32):Fit kH (by8 s):=by
 have:=zEv s
 rw[h] at this; exact this
theorem neH{a b:List Int}(c:Bool)(ha:a.length=32)(hb:b.length=32):(zma P .neq 28 c).f (agg (by8 a)) (agg (by8 b))=some (.bool (decide (a≠b))):=by
 rw[zFt fH (by kernel_rfl) (by kernel_rfl) (zIJ ha) (zIJ hb),zjl]
 simp
end J
set_option maxRecDepth 100000
namespace J
open Go Go.Ab
variable{H:Heap}{Γ Γ0 Γ2 Δ G L:List (Nat × Blk)}{K:VH}{v w x cv dv:Value}{xs ys zs bs b key ms:List Int}{j p q o n k mx:Nat}{e:Int}{cs cs':List Value}{l:List UInt8}{m a:Mf}{cks:List (List Int)}
def ob(xs:List Int):List UInt8:=xs.map fun n=>UInt8.ofNat n.toNat
theorem Inh.trans{v1 v2 v3:Value}{x1 x2 x3:List Int}(h1:Inh v1 x1 v2 x2)(h2:Inh v2 x2 v3 x3):Inh v1 x1 v3 x3:=fun Γ h=>h2 Γ (h1 Γ h)
def z32:List Int:=List.replicate 32 0
def hsh(xs:List Int)(e:Int):List Int:=if e=0∧32≤xs.length then xs.take 32 else z32
end J
