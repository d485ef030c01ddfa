/- texts of the proof, one behind the other -/
import Derived.Lib.RuneCountTail
import Derived.Test.YtheklmekepeblaaGreatDoorUD
set_option linter.unusedVariables false
set_option linter.unusedSimpArgs false
set_option linter.unusedSectionVars false
set_option maxRecDepth 100000
namespace J
open Go Go.Ab
variable{H:Heap}{Γ Γ0 Γ2 Δ G L:List (Nat × Blk)}{K:VH}{v w x:Value}{xs ys zs bs b key ms:List Int}{j p q o n k:Nat}{e:Int}{cs cs':List Value}{l m:List UInt8}
abbrev str(l:List UInt8):Value:=.string ⟨l.toArray⟩
theorem zsp:zIo (str l) H=some (int l.length,H):=by
 show some (Value.int .i64 (Int.ofNat (znf l)),H)=_
 rw[zOa]; rfl
theorem zPA{k:IntKind}{i:Int}(h0:0≤i)(h1:i < l.length):zAs (str l) (.int k i)=some (zwb .u8 (l.getD i.toNat 0).toNat):=by
 show (match leB 0 i with|true=>(atN l i.toNat).map zRg|false=>none)=_
 rw[zQc,decide_eq_true h0]
 simp only[zIi]
 rw[List.getD_eq_getElem?_getD,List.getElem?_eq_getElem (by omega)]
 rfl
theorem bHi{len n:Nat}(h:n≤len):zBc len (some (int (n:Int)))=some n:=by
 show (match leB 0 (n:Int) with|true=>(match Nat.ble (n:Int).toNat len with|true=>some (n:Int).toNat|false=>none)|false=>none)=_
 rw[zQc,decide_eq_true (by omega)]
 simp only[Int.toNat_natCast]
 rw[Nat.ble_eq_true_of_le h]
theorem zSw{n:Nat}(h:n≤l.length):zbf (str l) none (some (int n)) none=some (str (l.take n)):=by
 show (match zBc (znf l) (some (int n)) with|some h=>(match zjd h none with|some i=>some (Value.string ⟨(takeN (zRj l i) (h - i)).toArray⟩)|none=>none)|none=>none)=_
 rw[bHi (by rw[zOa]; exact h)]
 simp[zjd,zAb,zHb]
theorem zmD{n:Nat}(h:n≤l.length):zbf (str l) (some (int n)) none none=some (str (l.drop n)):=by
 show (match zBc (znf l) none with|some h=>(match zjd h (some (int n)) with|some i=>some (Value.string ⟨(takeN (zRj l i) (h - i)).toArray⟩)|none=>none)|none=>none)=_
 rw[zOa]
 simp only[zBc]
 rw[zco h]
 simp only[zAb,zHb]
 rw[List.take_of_length_le (by simp)]
theorem zNF(t:TypeId)(c:Bool):(zna P .eql t c).f (str l) (str m)=some (.bool (l == m)):=rfl
def cb(l:List UInt8)(i:Nat):Nat:=(l.getD i 0).toNat
theorem zAi(l:List UInt8)(i:Nat):cb l i < 256:=(l.getD i 0).toNat_lt
def isC(c:Nat):Prop:=128≤c∧c≤191
instance (c:Nat):Decidable (isC c):=by unfold isC; exact inferInstance
def nP(l:List UInt8)(n0:Nat):Nat→Nat
 | 0=>n0
 | y+1=>64 * nP l n0 y+cb l (y+1) - 128
def zhy(l:List UInt8):Nat→Bool
 | 0=>true
 | y+1=>zhy l y && decide (isC (cb l (y+1)))
def ztu(l:List UInt8)(size n0 least:Nat):Option (Nat × Nat):=
 if l.length < size then none else if zhy l (size - 1)=true then
  (if nP l n0 (size - 1) < least∨nP l n0 (size - 1) > 1114111∨(55296≤nP l n0 (size - 1)∧nP l n0 (size - 1)≤57343) then none else some (nP l n0 (size - 1),size))
 else none
def o4(l:List UInt8):Option (Nat × Nat):=
 if cb l 0 < 128 then some (cb l 0,1)
 else if 194≤cb l 0∧cb l 0 < 224 then ztu l 2 (cb l 0 - 192) 128
 else if 224≤cb l 0∧cb l 0 < 240 then ztu l 3 (cb l 0 - 224) 2048
 else if 240≤cb l 0∧cb l 0 < 245 then ztu l 4 (cb l 0 - 240) 65536
 else none
def ztg(l:List UInt8):List Value:=match o4 l with
 | none=>[int (cb l 0),str (l.take 1),.bool true]
 | some r=>[int r.1,str (l.take r.2),.bool false]
theorem zTw:zc P 139=[int 0,str [],.bool false]:=by kernel_rfl
theorem zOF(n:Int)(s:ByteArray)(b:Bool):(zDa P 139).f [(0,int n),(1,.string s),(2,.bool b)]=some (agg [int n,.string s,.bool b]):=by kernel_rfl
theorem zEH{n0:Nat}(h:n0 < 32):∀ y,y≤3→nP l n0 y < 64 ^ y * 64:=by
 intro y hy
 match y,hy with
 | 0,_=>simp[nP]; omega
 | 1,_=>have:=zAi l 1; simp[nP]; omega
 | 2,_=>have:=zAi l 1; have:=zAi l 2; simp[nP]; omega
 | 3,_=>have:=zAi l 1; have:=zAi l 2; have:=zAi l 3; simp[nP]; omega
theorem zSI{n0:Nat}(y:Nat)(h:zhy l (y+1)=true):128≤64 * nP l n0 y+cb l (y+1):=by
 have:isC (cb l (y+1)):=by
  have h:(zhy l y && decide (isC (cb l (y+1))))=true:=h
  rw[Bool.and_eq_true] at h
  exact of_decide_eq_true h.2
 have:=this.1
 omega
set_option maxHeartbeats 2000000 in
theorem znD{p2 p4 size n0 least:Nat}{Qx:LX}{Qr:LN}{bad:List Value}(hbl:bad.length=3)(hb1:bad.all oneCell=true)(hn0:n0 < 32)(hs1:2≤size)(hs:size≤4)(hl:size≤l.length)
  (hO:St H (Γ++[(p2,⟨[int 0,str [],.bool false],true⟩),(p4,⟨bad,true⟩)]))
  (hk1:zhy l (size - 1)=true→Qx 1 [str l,ptr p2 0,ptr p4 0,int size,int (nP l n0 (size - 1)),int least] H)
  (hk0:zhy l (size - 1)=false→∀ H' l',St H' (Γ++[(p2,⟨bad,true⟩),(p4,⟨bad,true⟩)])→nth l' 1=ptr p2 0→Qr l' H') :
  ztb P true 98 zkj 245 [str l,ptr p2 0,ptr p4 0,int size,int n0,int least,int 1] H Qx Qr:=by
 refine zFn (fun k l' H'=>∃ (y:Nat),y+1≤size∧k=size - y∧l'=[str l,ptr p2 0,ptr p4 0,int size,int (nP l n0 y),int least,int ((y+1:Nat):Int)]∧H=H'∧zhy l y=true) _ _ ?_ size _ _ ⟨0,by omega,by omega,rfl,rfl,rfl⟩
 rintro k l' H' ⟨y,hy,rfl,rfl,rfl,hc⟩
 unfold zmn
 try simp only[zja,zka]
 refine zaa zMa ?_
 refine zoa (fun h=>?_) (fun h=>?_)
 ·have hy:y+1 < size:=by omega
  have hcb:=zAi l (y+1)
  have hnp:=zEH (l:=l) hn0 y (by omega)
  have hpw:64 ^ y≤64 ^ 3:=Nat.pow_le_pow_right (by omega) (by omega)
  refine zaa (zPA (by omega) (by omega)) ?_
  rw[Int.toNat_natCast]
  refine zxa (zCG (k:=.u8) (by show cb l (y+1)≤_; omega)) ?_
  rw[show (l.getD (y+1) 0).toNat=cb l (y+1) from rfl]
  by_cases h2:isC (cb l (y+1))
  ·have hc2:zhy l (y+1)=true:=by show (zhy l y && decide (isC (cb l (y+1))))=true; rw[hc,decide_eq_true h2]; rfl
   have hge:=zSI (n0:=n0) y hc2
   obtain⟨g1,g2⟩:=h2
   refine zEa (fun l' H'=>l'=[str l,ptr p2 0,ptr p4 0,int size,int (nP l n0 y),int least,int ((y+1:Nat):Int),int (cb l (y+1)),.bool false]∧H=H') ?_ ?_
   ·repeat (first|refine oi ?_|refine ow ?_|refine wy ?_|refine wn ?_|refine wt ?_|refine wf' ?_|refine cy ?_|refine cn ?_)
    exact⟨by first|(rw[decide_eq_false (by omega)]; done)|(rw[decide_eq_false (by omega)]; rfl),(by first|rfl|trivial)⟩
   rintro l' H' ⟨rfl,rfl⟩
   try simp only[zja,zka]
   refine zKb rfl ?_
   refine zaa (zPh (by omega) (by omega)) ?_
   repeat (first|refine oi ?_|refine ow ?_|refine wy ?_|refine wn ?_|refine wt ?_|refine wf' ?_|refine cy ?_|refine cn ?_)
   refine⟨size - (y+1),by omega,y+1,by omega,rfl,?_,(by first|rfl|trivial),hc2⟩
   rw[show nP l n0 (y+1)=64 * nP l n0 y+cb l (y+1) - 128 from rfl]
   have e1:(64 * (nP l n0 y:Int)+(cb l (y+1):Int) - 128)=((64 * nP l n0 y+cb l (y+1) - 128:Nat):Int):=by omega
   rw[e1]; rfl
  ·have hcf:zhy l (size - 1)=false:=by
    have:∀ z,y+1≤z→zhy l z=false:=by
     intro z hz
     induction z with
     | zero=>omega
     | succ z ih=>
      show (zhy l z && decide (isC (cb l (z+1))))=false
      by_cases hz2:y+1≤z
      ·rw[ih hz2]; rfl
      ·have:z=y:=by omega
       subst this
       rw[decide_eq_false h2,Bool.and_false]
    exact this _ (by omega)
   refine zEa (fun l' H'=>l'=[str l,ptr p2 0,ptr p4 0,int size,int (nP l n0 y),int least,int ((y+1:Nat):Int),int (cb l (y+1)),.bool true]∧H=H') ?_ ?_
   ·refine zaa zMa ?_
    refine zoa (fun h3=>?_) (fun h3=>?_)
    ·repeat (first|refine oi ?_|refine ow ?_|refine wy ?_|refine wn ?_|refine wt ?_|refine wf' ?_|refine cy ?_|refine cn ?_)
     exact⟨(by first|rfl|trivial),(by first|rfl|trivial)⟩
    ·repeat (first|refine oi ?_|refine ow ?_|refine wy ?_|refine wn ?_|refine wt ?_|refine wf' ?_|refine cy ?_|refine cn ?_)
     refine⟨?_,(by first|rfl|trivial)⟩
     unfold isC at h2
     rw[decide_eq_true (show (191:Int) < (cb l (y+1):Int) by omega)]
   rintro l' H' ⟨rfl,rfl⟩
   try simp only[zja,zka]
   refine zhd rfl ?_
   refine lw hO 1 rfl hbl (by omega) ?_
   refine sw hO 0 rfl rfl hbl hb1 ?_
   intro H2 hO2
   exact hk0 hcf _ _ hO2 rfl
 ·have e:y=size - 1:=by omega
  subst e
  exact hk1 hc
end J
set_option maxRecDepth 100000
namespace J
open Go Go.Ab
variable{H:Heap}{Γ Γ0 Γ2 Δ G L:List (Nat × Blk)}{K:VH}{v w x:Value}{xs ys zs bs b key ms:List Int}{j p q o n k:Nat}{e:Int}{cs cs':List Value}{l m:List UInt8}
theorem ztp(l:List UInt8):(ztg l).all oneCell=true∧(ztg l).length=3:=by
 unfold ztg
 split <;> exact⟨rfl,rfl⟩
theorem zMf{size n0 least:Nat}{r:Nat × Nat}(h:ztu l size n0 least=some r):size≤l.length∧r.2=size:=by
 unfold ztu at h
 split at h
 ·cases h
 ·split at h
  ·split at h
   ·cases h
   ·cases h; exact⟨by omega,rfl⟩
  ·cases h
theorem zQA{r:Nat × Nat}(h:o4 l=some r)(hl:l≠[]):1≤r.2∧r.2≤4∧r.2≤l.length:=by
 have hl:0 < l.length:=List.length_pos_iff.2 hl
 unfold o4 at h
 split at h
 ·cases h; exact⟨by simp,by simp,hl⟩
 split at h
 ·obtain⟨h1,h2⟩:=zMf h; omega
 split at h
 ·obtain⟨h1,h2⟩:=zMf h; omega
 split at h
 ·obtain⟨h1,h2⟩:=zMf h; omega
 ·cases h
set_option maxHeartbeats 4000000 in
theorem zoD(hl:l≠[])(hO:St H Γ)(hk:∀ H',St H' Γ→K (agg (ztg l)) H'):wCall P zUh [str l] H K:=by
 apply zBt; unfold zAt
 have hl1:0 < l.length:=List.length_pos_iff.2 hl
 have ha:=zAi l 0
 rw[zTw]
 refine nw hO.z ?_
 clear hO
 intro p2 H hO
 refine zaa (zPA (by omega) (by omega)) ?_
 rw[show (l.getD (0:Int).toNat 0).toNat=cb l 0 from rfl]
 refine zxa (zCG (k:=.u8) (by omega)) ?_
 refine zaa (zSw (n:=1) (by omega)) ?_
 refine zaa (zOF _ _ _) ?_
 refine nw hO ?_
 clear hO
 intro p4 H hO
 refine sw hO 1 rfl rfl rfl rfl ?_
 clear hO
 intro H hO
 replace hO:St H (Γ++[(p2,⟨[int 0,str [],.bool false],true⟩),(p4,⟨[int (cb l 0),str (l.take 1),.bool true],true⟩)]):=hO
 by_cases h0:cb l 0 < 128
 ·repeat (first|refine oi ?_|refine ow ?_|refine wy ?_|refine wn ?_|refine wt ?_|refine wf' ?_|refine cy ?_|refine cn ?_)
  refine zaa (zSw (n:=1) (by omega)) ?_
  refine zaa (zOF _ _ _) ?_
  refine sw hO 0 rfl rfl rfl rfl ?_
  clear hO
  intro H hO
  refine lw hO 0 rfl rfl (by omega) ?_
  have:=hk _ hO.left
  unfold ztg at this
  rw[show o4 l=some (cb l 0,1) from if_pos h0] at this
  exact this
 have hbad:o4 l=none→∀ H (Δ:List (Nat × Blk)),St H (Γ++Δ)→K (agg [int (cb l 0),str (l.take 1),.bool true]) H:=fun h H Δ hO=>by
  have:=hk _ hO.left
  unfold ztg at this
  rw[h] at this
  exact this
 refine zaa zMa ?_
 refine zhc (by omega) ?_
 refine zEa (fun l' H'=>∃ (size n0 least:Nat),l'=[str l,ptr p2 0,ptr p4 0,int size,int n0,int least]∧H=H'∧n0 < 32∧2≤size∧size≤4∧o4 l=ztu l size n0 least) ?_ ?_
 ·by_cases c2:194≤cb l 0∧cb l 0 < 224
  ·refine zYb ?_
   repeat (first|refine oi ?_|refine ow ?_|refine wy ?_|refine wn ?_|refine wt ?_|refine wf' ?_|refine cy ?_|refine cn ?_)
   try simp only[zja,zka]
   repeat (first|refine oi ?_|refine ow ?_|refine wy ?_|refine wn ?_|refine wt ?_|refine wf' ?_|refine cy ?_|refine cn ?_)
   refine⟨2,cb l 0 - 192,128,by rw[show ((cb l 0 - 192:Nat):Int)=(cb l 0:Int) - 192 by omega]; rfl,(by first|rfl|trivial),by omega,by omega,by omega,?_⟩
   unfold o4
   rw[if_neg h0,if_pos c2]
  by_cases c3:224≤cb l 0∧cb l 0 < 240
  ·refine zEa (fun l' H'=>l'=[str l,ptr p2 0,int (cb l 0),ptr p4 0,int 0,int 0,int 0,.bool false]∧H=H') ?_ ?_
   ·repeat (first|refine oi ?_|refine ow ?_|refine wy ?_|refine wn ?_|refine wt ?_|refine wf' ?_|refine cy ?_|refine cn ?_)
    exact⟨by rw[decide_eq_false (by omega)],(by first|rfl|trivial)⟩
   rintro l' H' ⟨rfl,rfl⟩
   try simp only[zja,zka]
   refine zKb rfl ?_
   refine zYb ?_
   repeat (first|refine oi ?_|refine ow ?_|refine wy ?_|refine wn ?_|refine wt ?_|refine wf' ?_|refine cy ?_|refine cn ?_)
   try simp only[zja,zka]
   repeat (first|refine oi ?_|refine ow ?_|refine wy ?_|refine wn ?_|refine wt ?_|refine wf' ?_|refine cy ?_|refine cn ?_)
   refine⟨3,cb l 0 - 224,2048,by rw[show ((cb l 0 - 224:Nat):Int)=(cb l 0:Int) - 224 by omega]; rfl,(by first|rfl|trivial),by omega,by omega,by omega,?_⟩
   unfold o4
   rw[if_neg h0,if_neg c2,if_pos c3]
  refine zEa (fun l' H'=>l'=[str l,ptr p2 0,int (cb l 0),ptr p4 0,int 0,int 0,int 0,.bool false]∧H=H') ?_ ?_
  ·refine zaa zOh ?_
   refine zoa (fun h1=>?_) (fun h1=>?_)
   ·repeat (first|refine oi ?_|refine ow ?_|refine wy ?_|refine wn ?_|refine wt ?_|refine wf' ?_|refine cy ?_|refine cn ?_)
    exact⟨by rw[decide_eq_false (by omega)],(by first|rfl|trivial)⟩
   ·repeat (first|refine oi ?_|refine ow ?_|refine wy ?_|refine wn ?_|refine wt ?_|refine wf' ?_|refine cy ?_|refine cn ?_)
    exact⟨(by first|rfl|trivial),(by first|rfl|trivial)⟩
  rintro l' H' ⟨rfl,rfl⟩
  try simp only[zja,zka]
  refine zKb rfl ?_
  refine zEa (fun l' H'=>l'=[str l,ptr p2 0,int (cb l 0),ptr p4 0,int 0,int 0,int 0,.bool false]∧H=H') ?_ ?_
  ·refine zaa zOh ?_
   refine zoa (fun h1=>?_) (fun h1=>?_)
   ·repeat (first|refine oi ?_|refine ow ?_|refine wy ?_|refine wn ?_|refine wt ?_|refine wf' ?_|refine cy ?_|refine cn ?_)
    exact⟨by rw[decide_eq_false (by omega)],(by first|rfl|trivial)⟩
   ·repeat (first|refine oi ?_|refine ow ?_|refine wy ?_|refine wn ?_|refine wt ?_|refine wf' ?_|refine cy ?_|refine cn ?_)
    exact⟨(by first|rfl|trivial),(by first|rfl|trivial)⟩
  rintro l' H' ⟨rfl,rfl⟩
  try simp only[zja,zka]
  refine zKb rfl ?_
  by_cases c4:240≤cb l 0∧cb l 0 < 245
  ·refine zYb ?_
   repeat (first|refine oi ?_|refine ow ?_|refine wy ?_|refine wn ?_|refine wt ?_|refine wf' ?_|refine cy ?_|refine cn ?_)
   try simp only[zja,zka]
   repeat (first|refine oi ?_|refine ow ?_|refine wy ?_|refine wn ?_|refine wt ?_|refine wf' ?_|refine cy ?_|refine cn ?_)
   refine⟨4,cb l 0 - 240,65536,by rw[show ((cb l 0 - 240:Nat):Int)=(cb l 0:Int) - 240 by omega]; rfl,(by first|rfl|trivial),by omega,by omega,by omega,?_⟩
   unfold o4
   rw[if_neg h0,if_neg c2,if_neg c3,if_pos c4]
  have hn:o4 l=none:=by unfold o4; rw[if_neg h0,if_neg c2,if_neg c3,if_neg c4]
  refine zEa (fun l' H'=>l'=[str l,ptr p2 0,int (cb l 0),ptr p4 0,int 0,int 0,int 0,.bool false]∧H=H') ?_ ?_
  ·refine zaa zOh ?_
   refine zoa (fun h1=>?_) (fun h1=>?_)
   ·repeat (first|refine oi ?_|refine ow ?_|refine wy ?_|refine wn ?_|refine wt ?_|refine wf' ?_|refine cy ?_|refine cn ?_)
    exact⟨by rw[decide_eq_false (by omega)],(by first|rfl|trivial)⟩
   ·repeat (first|refine oi ?_|refine ow ?_|refine wy ?_|refine wn ?_|refine wt ?_|refine wf' ?_|refine cy ?_|refine cn ?_)
    exact⟨(by first|rfl|trivial),(by first|rfl|trivial)⟩
  rintro l' H' ⟨rfl,rfl⟩
  try simp only[zja,zka]
  refine zKb rfl ?_
  refine lw hO 1 rfl rfl (by omega) ?_
  refine sw hO 0 rfl rfl rfl rfl ?_
  clear hO
  intro H hO
  refine lw hO 0 rfl rfl (by omega) ?_
  exact hbad hn _ _ hO
 rintro l' H' ⟨size,n0,least,rfl,rfl,g1,g2,g3,g4⟩
 try simp only[zja,zka]
 refine zxa zsp ?_
 refine zaa zMa ?_
 refine zoa (fun h=>?_) (fun h=>?_)
 ·refine lw hO 1 rfl rfl (by omega) ?_
  refine sw hO 0 rfl rfl rfl rfl ?_
  clear hO
  intro H hO
  refine lw hO 0 rfl rfl (by omega) ?_
  refine hbad ?_ _ _ hO
  rw[g4]; unfold ztu
  rw[if_pos (by omega)]
 refine znD rfl rfl g1 g2 g3 (by omega) hO ?_ ?_
 ·intro hc
  refine zSa rfl ?_
  have hlt:=zEH (l:=l) g1 (size - 1) (by omega)
  have hs:o4 l=if nP l n0 (size - 1) < least∨nP l n0 (size - 1) > 1114111∨(55296≤nP l n0 (size - 1)∧nP l n0 (size - 1)≤57343) then none else some (nP l n0 (size - 1),size):=by
   rw[g4]; unfold ztu
   rw[if_neg (by omega),if_pos hc]
  generalize nP l n0 (size - 1)=N at *
  try simp only[zja,zka]
  refine zEa (fun l' H'=>l'=[str l,ptr p2 0,ptr p4 0,int size,int N,.bool (decide (N < least∨N > 1114111∨(55296≤N∧N≤57343)))]∧H=H') ?_ ?_
  ·by_cases z1:N < least
   ·repeat (first|refine oi ?_|refine ow ?_|refine wy ?_|refine wn ?_|refine wt ?_|refine wf' ?_|refine cy ?_|refine cn ?_)
    exact⟨by rw[decide_eq_true (show N < least∨N > 1114111∨(55296≤N∧N≤57343) from .inl z1)],(by first|rfl|trivial)⟩
   by_cases z2:N > 1114111
   ·repeat (first|refine oi ?_|refine ow ?_|refine wy ?_|refine wn ?_|refine wt ?_|refine wf' ?_|refine cy ?_|refine cn ?_)
    exact⟨by rw[decide_eq_true (show N < least∨N > 1114111∨(55296≤N∧N≤57343) from .inr (.inl z2))],(by first|rfl|trivial)⟩
   by_cases z3:55296≤N
   ·repeat (first|refine oi ?_|refine ow ?_|refine wy ?_|refine wn ?_|refine wt ?_|refine wf' ?_|refine cy ?_|refine cn ?_)
    exact⟨by rw[decide_eq_decide.2 (show ((N:Int)≤57343)↔(N < least∨N > 1114111∨(55296≤N∧N≤57343)) by omega)],(by first|rfl|trivial)⟩
   ·repeat (first|refine oi ?_|refine ow ?_|refine wy ?_|refine wn ?_|refine wt ?_|refine wf' ?_|refine cy ?_|refine cn ?_)
    exact⟨by rw[decide_eq_false (show ¬ (N < least∨N > 1114111∨(55296≤N∧N≤57343)) by omega)],(by first|rfl|trivial)⟩
  rintro l' H' ⟨rfl,rfl⟩
  try simp only[zja,zka]
  refine zoa (fun z=>?_) (fun z=>?_)
  ·refine lw hO 1 rfl rfl (by omega) ?_
   refine sw hO 0 rfl rfl rfl rfl ?_
   clear hO
   intro H hO
   refine lw hO 0 rfl rfl (by omega) ?_
   exact hbad (by rw[hs,if_pos z]) _ _ hO
  ·refine zaa (zSw (by omega)) ?_
   refine zaa (zOF _ _ _) ?_
   refine sw hO 0 rfl rfl rfl rfl ?_
   clear hO
   intro H hO
   refine lw hO 0 rfl rfl (by omega) ?_
   have:=hk _ hO.left
   unfold ztg at this
   rw[hs,if_neg z] at this
   exact this
 ·intro hc H l' hO hp
  rw[hp]
  refine lw hO 0 rfl rfl (by omega) ?_
  refine hbad ?_ _ _ hO
  rw[g4]; unfold ztu
  rw[if_neg (by omega),if_neg (by rw[hc]; simp)]
end J
set_option maxRecDepth 100000
namespace J
open Go Go.Ab
variable{H:Heap}{Γ Γ0 Γ2 Δ G L:List (Nat × Blk)}{K:VH}{v w x:Value}{xs ys zs bs b key ms:List Int}{j p q o n k:Nat}{e:Int}{cs cs':List Value}{l m:List UInt8}{ds:List (List UInt8)}
def wid(l:List UInt8):Nat:=match o4 l with
 | none=>1
 | some r=>r.2
def zPt:Nat→List UInt8→List (List UInt8)
 | 0,_=>[]
 | n+1,l=>if l=[] then [] else l::zPt n (l.drop (wid l))
def zws(l:List UInt8):List (List UInt8):=zPt l.length l
theorem zhs(hl:l≠[]):1≤wid l∧wid l≤l.length:=by
 unfold wid
 split
 ·exact⟨Nat.le_refl _,List.length_pos_iff.2 hl⟩
 ·rename_i r h
  have:=zQA h hl
  exact⟨this.1,this.2.2⟩
theorem zis:∀ (n:Nat) (l:List UInt8),(zPt n l).length≤n
 | 0,_=>Nat.zero_le _
 | n+1,l=>by
  unfold zPt
  split
  ·exact Nat.zero_le _
  ·have:=zis n (l.drop (wid l))
   simpa using this
theorem zPF(l:List UInt8):(ztg l)[1]?=some (str (l.take (wid l))):=by
 unfold ztg wid
 cases o4 l <;> rfl
theorem zFH(a b c:Value)(H:Heap):(zia P 136 1).f [(0,agg [a,b,c])] H=some (sl H.next 0 1 7,H.push [a,b,c]):=by kernel_rfl
theorem zQF(H:Heap):(zia P 136 0).f [] H=some (sl H.next 0 0 7,H.push []):=by kernel_rfl
theorem three{l:List Value}(h:l.length=3):∃ a b c,l=[a,b,c]:=by
 match l,h with
 | [a,b,c],_=>exact⟨a,b,c,rfl⟩
abbrev rnC(ds:List (List UInt8)):List Value:=ds.flatMap ztg
set_option maxHeartbeats 2000000 in
theorem zVq(hl:l.length≤1000000)(hO:St H Γ)(hk:∀ H' v,St H' (Γ++zRa v (rnC (zws l)))→Own 3 v (zws l).length (rnC (zws l))→K v H'):wCall P zoe [str l] H K:=by
 apply zaq; unfold zdp
 refine zCa hO (zQF _) ?_
 clear hO
 intro q H hO
 refine zyl (fun k l' H'=>∃ (r:List UInt8) (ds:List (List UInt8)) (v:Value),r.length≤k∧ds.length+k≤l.length∧zws l=ds++zPt k r∧l'=[str r,zwa,v]∧St H' (Γ++zRa v (rnC ds))∧Own 3 v ds.length (rnC ds)) _ _ ?_ l.length _ _ ⟨l,[],sl q 0 0 7,Nat.le_refl _,by simp,rfl,rfl,hO,.inr ⟨q,.inr rfl,rfl⟩⟩
 clear hO
 rintro k l' H ⟨r,ds,v,hr,hd,he,rfl,hO,hv⟩
 unfold ztk
 try simp only[zja,zka]
 refine zaa (show _=some (.bool (!(r == []))) from rfl) ?_
 by_cases h0:r=[]
 ·subst h0
  refine zKb rfl ?_
  refine zSa rfl ?_
  try simp only[zja,zka]
  have e0:zPt k []=[]:=by cases k <;> rfl
  rw[e0,List.append_nil] at he
  rw[he] at hk
  exact hk H v hO hv
 ·have hb:(r == [])=false:=by cases r <;> first|rfl|exact absurd rfl h0
  rw[hb]
  refine zhd rfl ?_
  refine zoD h0 hO ?_
  clear hO
  intro H hO
  rw[zTw]
  obtain⟨g1,g2⟩:=ztp r
  refine zhb hO ?_
  clear hO
  intro p4 H hO
  refine zva hO (_+0) (zza rfl) rfl g2 g1 ?_
  clear hO
  intro H hO
  replace hO:=hO.set_r
  replace hO:St H ((Γ++zRa v (rnC ds))++[(p4,⟨ztg r,true⟩)]):=hO
  refine zHa hO (_+0) (zza rfl) g2 (by omega) ?_
  obtain⟨ca,cb,cc,hc⟩:=three g2
  refine zCa hO (by rw[hc]; exact zFH _ _ _ _) ?_
  rw[← hc]
  clear hO
  intro q2 H hO
  replace hO:St H (((Γ++[(p4,⟨ztg r,true⟩)])++zRa v (rnC ds))++[(q2,⟨ztg r,true⟩)]):=hO.perm (by classical exact List.perm_iff_count.2 fun _=>by simp only[List.count_append,List.count_nil,List.set_cons_zero]; omega)
  refine zei hO hv g2 (by omega) g1 (by omega) (by omega) ?_
  clear hO
  intro v2 H hO hv2
  obtain⟨w1,w2⟩:=zhs h0
  refine zaa zba ?_
  refine zpa hO (Γ.length+0) (zAa (zza rfl)) (v:=str (r.take (wid r))) (zPF r) ?_
  refine zxa zsp ?_
  rw[List.length_take,Nat.min_eq_left w2]
  refine zaa (zmD w2) ?_
  cases k with
  | zero=>omega
  | succ k=>
   refine⟨k,Nat.lt_succ_self _,r.drop (wid r),ds++[r],v2,?_,?_,?_,rfl,?_,?_⟩
   ·rw[List.length_drop]; omega
   ·rw[List.length_append]; simp; omega
   ·rw[he]
    show ds++(if r=[] then [] else r::zPt k (r.drop (wid r)))=_
    rw[if_neg h0]; simp
   ·replace hO:St H (Γ++zRa v2 (rnC ds++ztg r)):=St.mid hO
    simpa using hO
   ·simpa using hv2
def okR(l:List UInt8)(first:Bool):Bool:=match o4 l with
 | none=>false
 | some r=>Go.Lib.isLetterU r.1 || (!first && (Go.Lib.isDigitU r.1 || (l.take r.2 == [45] || (l.take r.2 == [95] || l.take r.2 == [46]))))
def zwI(l:List UInt8):Bool:=match o4 l with
 | none=>false
 | some r=>Go.Lib.isLetterU r.1
def zHm:Nat→List (List UInt8)→Bool
 | _,[]=>true
 | i,r::ds=>okR r (i == 0) && zHm (i+1) ds
def nm4(l:List UInt8):Int:=if (zws l).length=0∨(zws l).length > 24 then 41 else if zHm 0 (zws l)=true then 0 else 41
theorem zGH{n:Int}(h0:0≤n)(h1:n < 2147483648):zbc .i32 (int n) H=some (.int .i32 n,H):=by
 show some (Value.int .i32 (zwc .i32 n),H)=_
 have:zwc .i32 n=n:=by
  show zof 2147483648 4294967296 n=n
  unfold zof
  obtain⟨m,rfl⟩:∃ m:Nat,n=m:=⟨n.toNat,by omega⟩
  have hb:Nat.blt m 2147483648=true:=by rw[blt_eq,decide_eq_true (by omega)]
  show (match Nat.blt m 2147483648 with|true=>Int.ofNat m|false=>_)=_
  rw[hb]; rfl
 rw[this]
theorem ziy{i:Nat}{ds:List (List UInt8)}:∀ (y:Nat) (h:y < ds.length),zHm (i+y) (ds.drop y)=(okR ds[y] (i+y == 0) && zHm (i+(y+1)) (ds.drop (y+1))):=by
 intro y h
 rw[List.drop_eq_getElem_cons h]
 rfl
end J
set_option maxRecDepth 100000
namespace J
open Go Go.Ab
variable{H:Heap}{Γ Γ0 Γ2 Δ G L:List (Nat × Blk)}{K:VH}{v w x:Value}{xs ys zs bs b key ms:List Int}{j p q o n k:Nat}{e:Int}{cs cs':List Value}{l m:List UInt8}{ds:List (List UInt8)}
theorem zBv{size n0 least:Nat}{r:Nat × Nat}(h:ztu l size n0 least=some r):r.1≤1114111:=by
 unfold ztu at h
 split at h
 ·cases h
 ·split at h
  ·split at h
   ·cases h
   ·cases h; simp only; omega
  ·cases h
theorem zHH{r:Nat × Nat}(h:o4 l=some r):r.1≤1114111:=by
 have:=zAi l 0
 unfold o4 at h
 split at h
 ·cases h; simp only; omega
 split at h
 ·exact zBv h
 split at h
 ·exact zBv h
 split at h
 ·exact zBv h
 ·cases h
structure Rn3 (l:List UInt8) (n:Nat) (bt:List UInt8) (br:Bool):Prop where
 cells:ztg l=[int n,str bt,.bool br]
 lt:n≤1114111
 let':zwI l=(!br && Go.Lib.isLetterU n)
 ok:∀ f,okR l f=(!br && (Go.Lib.isLetterU n || (!f && (Go.Lib.isDigitU n || (bt == [45] || (bt == [95] || bt == [46]))))))
theorem rn3(l:List UInt8):∃ n bt br,Rn3 l n bt br:=by
 cases h:o4 l with
 | none=>exact⟨cb l 0,l.take 1,true,by unfold ztg; rw[h],by have:=zAi l 0; omega,by unfold zwI; rw[h]; rfl,fun f=>by unfold okR; rw[h]; rfl⟩
 | some r=>exact⟨r.1,l.take r.2,false,by unfold ztg; rw[h],zHH h,by unfold zwI; rw[h]; rfl,fun f=>by unfold okR; rw[h]; rfl⟩
set_option maxHeartbeats 4000000 in
theorem zRA{Qx:LX}{Qr:LN}(hl:ds.length≤1000000)(hv:Own 3 v ds.length (rnC ds))(hO:St H (Γ++zRa v (rnC ds)))
  (hk1:zHm 0 ds=true→∀ H',St H' Γ→Qx 0 [int 0] H') (hk0:zHm 0 ds=false→∀ H',St H' Γ→Qr [int 41] H') :
  ztb P true 64 zZh 4 [int 0,v,int ds.length,int 0] H Qx Qr:=by
 refine zym (fun k l' H'=>∃ (y:Nat),y≤ds.length∧k=ds.length - y∧l'=[int 0,v,int ds.length,int y]∧St H' (Γ++zRa v (rnC ds))∧zHm 0 ds=zHm y (ds.drop y)) _ _ ?_ ds.length _ _ ⟨0,by omega,by omega,rfl,hO,rfl⟩
 clear hO
 rintro k l' H ⟨y,hy,rfl,rfl,hO,hok⟩
 unfold zxl
 try simp only[zja,zka]
 refine zaa zMa ?_
 refine zoa (fun h=>?_) (fun h=>?_)
 ·have hy:y < ds.length:=by omega
  obtain⟨pv,cv,rfl,hΓ⟩:∃ pv cv,v=sl pv 0 ds.length cv∧zRa v (rnC ds)=[(pv,⟨rnC ds,true⟩)]:=by
   rcases hv with⟨_,h0,_⟩|⟨pv,rfl|rfl,_⟩
   ·omega
   ·exact⟨pv,_,rfl,rfl⟩
   ·exact⟨pv,_,rfl,rfl⟩
  rw[hΓ] at hO
  have hdrop:=ziy (i:=0) (ds:=ds) y hy
  rw[Nat.zero_add,Nat.zero_add] at hdrop
  rw[hdrop] at hok
  obtain⟨n,bt,br,r3⟩:=rn3 ds[y]
  have hcells:=zpv (f:=ztg) (n:=3) (l:=ds) (i:=y) (o:=0) (m:=3) (fun x _=>(ztp x).2) hy (by omega)
  rw[r3.cells] at hcells
  refine zaa (zpb (by omega) (by omega)) ?_
  refine zFa hO (Γ.length+0) (zza rfl) (show _=[int n,str bt,.bool br] from by rw[show 0+(y:Int).toNat * 3=y * 3+0 by omega]; exact hcells) rfl (by omega) ?_
  rw[zTw]
  refine nw hO ?_
  clear hO
  intro p5 H hO
  refine sw hO 1 rfl rfl rfl rfl ?_
  clear hO
  intro H hO
  replace hO:St H (Γ++[(pv,⟨rnC ds,true⟩),(p5,⟨[int n,str bt,.bool br],true⟩)]):=hO
  repeat (first|refine oi ?_|refine ow ?_|refine wy ?_|refine wn ?_|refine wt ?_|refine wf' ?_|refine cy ?_|refine cn ?_|refine ld hO 0 rfl rfl ?_|refine ld hO 1 rfl rfl ?_|refine ld hO 2 rfl rfl ?_|refine ld hO 3 rfl rfl ?_|refine ld hO 4 rfl rfl ?_|refine ld hO 5 rfl rfl ?_)
  have hn:=r3.lt
  refine zxa (zGH (by omega) (by omega)) ?_
  refine zEa (fun l' H'=>l'=[int 0,int y,ptr p5 0,.int .i32 n,.bool (zwI ds[y]),sl pv 0 ds.length cv,int ds.length,int y]∧H=H') ?_ ?_
  ·repeat (first|refine oi ?_|refine ow ?_|refine wy ?_|refine wn ?_|refine wt ?_|refine wf' ?_|refine cy ?_|refine cn ?_|refine ld hO 0 rfl rfl ?_|refine ld hO 1 rfl rfl ?_|refine ld hO 2 rfl rfl ?_|refine ld hO 3 rfl rfl ?_|refine ld hO 4 rfl rfl ?_|refine ld hO 5 rfl rfl ?_)
   rw[r3.let']
   cases br with
   | true=>
    refine zKb rfl ?_
    repeat (first|refine oi ?_|refine ow ?_|refine wy ?_|refine wn ?_|refine wt ?_|refine wf' ?_|refine cy ?_|refine cn ?_)
    exact⟨(by first|rfl|trivial),(by first|rfl|trivial)⟩
   | false=>
    refine zhd rfl ?_
    refine zmv (by omega) (by omega) ?_
    repeat (first|refine oi ?_|refine ow ?_|refine wy ?_|refine wn ?_|refine wt ?_|refine wf' ?_|refine cy ?_|refine cn ?_)
    exact⟨(by first|rfl|trivial),(by first|rfl|trivial)⟩
  rintro l' H' ⟨rfl,rfl⟩
  try simp only[zja,zka]
  refine zEa (fun l' H'=>l'=[int 0,.bool (okR ds[y] (y == 0)),sl pv 0 ds.length cv,int ds.length,int y]∧H=H') ?_ ?_
  ·rw[r3.let',r3.ok]
   refine zaa zKc ?_
   refine zoa (fun h0=>?_) (fun h0=>?_)
   ·have e0:(y == 0)=false:=by simp; omega
    rw[e0]
    repeat (first|refine oi ?_|refine ow ?_|refine wy ?_|refine wn ?_|refine wt ?_|refine wf' ?_|refine cy ?_|refine cn ?_|refine ld hO 0 rfl rfl ?_|refine ld hO 1 rfl rfl ?_|refine ld hO 2 rfl rfl ?_|refine ld hO 3 rfl rfl ?_|refine ld hO 4 rfl rfl ?_|refine ld hO 5 rfl rfl ?_)
    cases br with
    | true=>
     refine zKb rfl ?_
     repeat (first|refine oi ?_|refine ow ?_|refine wy ?_|refine wn ?_|refine wt ?_|refine wf' ?_|refine cy ?_|refine cn ?_)
     exact⟨(by first|rfl|trivial),(by first|rfl|trivial)⟩
    | false=>
     refine zhd rfl ?_
     refine zSx (by omega) (by omega) ?_
     refine znd (fun hd=>?_) (fun hd=>?_)
     ·rw[hd]
      repeat (first|refine oi ?_|refine ow ?_|refine wy ?_|refine wn ?_|refine wt ?_|refine wf' ?_|refine cy ?_|refine cn ?_)
      exact⟨by simp,(by first|rfl|trivial)⟩
     ·rw[hd]
      repeat (first|refine oi ?_|refine ow ?_|refine wy ?_|refine wn ?_|refine wt ?_|refine wf' ?_|refine cy ?_|refine cn ?_|refine ld hO 0 rfl rfl ?_|refine ld hO 1 rfl rfl ?_|refine ld hO 2 rfl rfl ?_|refine ld hO 3 rfl rfl ?_|refine ld hO 4 rfl rfl ?_|refine ld hO 5 rfl rfl ?_)
      refine zaa (show _=some (.bool (bt == [45])) from rfl) ?_
      refine zaa zbb ?_
      refine znd (fun h1=>?_) (fun h1=>?_)
      ·rw[h1]
       repeat (first|refine oi ?_|refine ow ?_|refine wy ?_|refine wn ?_|refine wt ?_|refine wf' ?_|refine cy ?_|refine cn ?_)
       exact⟨by simp,(by first|rfl|trivial)⟩
      ·rw[h1]
       repeat (first|refine oi ?_|refine ow ?_|refine wy ?_|refine wn ?_|refine wt ?_|refine wf' ?_|refine cy ?_|refine cn ?_|refine ld hO 0 rfl rfl ?_|refine ld hO 1 rfl rfl ?_|refine ld hO 2 rfl rfl ?_|refine ld hO 3 rfl rfl ?_|refine ld hO 4 rfl rfl ?_|refine ld hO 5 rfl rfl ?_)
       refine zaa (show _=some (.bool (bt == [95])) from rfl) ?_
       refine zaa zbb ?_
       refine znd (fun h2=>?_) (fun h2=>?_)
       ·rw[h2]
        repeat (first|refine oi ?_|refine ow ?_|refine wy ?_|refine wn ?_|refine wt ?_|refine wf' ?_|refine cy ?_|refine cn ?_)
        exact⟨by simp,(by first|rfl|trivial)⟩
       ·rw[h2]
        repeat (first|refine oi ?_|refine ow ?_|refine wy ?_|refine wn ?_|refine wt ?_|refine wf' ?_|refine cy ?_|refine cn ?_|refine ld hO 0 rfl rfl ?_|refine ld hO 1 rfl rfl ?_|refine ld hO 2 rfl rfl ?_|refine ld hO 3 rfl rfl ?_|refine ld hO 4 rfl rfl ?_|refine ld hO 5 rfl rfl ?_)
        refine zaa (show _=some (.bool (bt == [46])) from rfl) ?_
        refine zaa zbb ?_
        repeat (first|refine oi ?_|refine ow ?_|refine wy ?_|refine wn ?_|refine wt ?_|refine wf' ?_|refine cy ?_|refine cn ?_)
        refine znd (fun h3=>?_) (fun h3=>?_)
        ·rw[h3]
         exact⟨by simp,(by first|rfl|trivial)⟩
        ·rw[h3]
         exact⟨by simp,(by first|rfl|trivial)⟩
   ·have e0:(y == 0)=true:=by simp; omega
    rw[e0]
    repeat (first|refine oi ?_|refine ow ?_|refine wy ?_|refine wn ?_|refine wt ?_|refine wf' ?_|refine cy ?_|refine cn ?_)
    exact⟨by simp,(by first|rfl|trivial)⟩
  rintro l' H' ⟨rfl,rfl⟩
  try simp only[zja,zka]
  refine zaa zJb ?_
  cases hz:okR ds[y] (y == 0) with
  | false=>
   rw[hz] at hok
   refine zhd rfl ?_
   exact hk0 hok _ hO.left
  | true=>
   rw[hz] at hok
   refine zKb rfl ?_
   repeat (first|refine oi ?_|refine ow ?_|refine wy ?_|refine wn ?_|refine wt ?_|refine wf' ?_|refine cy ?_|refine cn ?_)
   refine⟨ds.length - (y+1),by omega,y+1,by omega,rfl,rfl,?_,?_⟩
   ·rw[hΓ]; exact zfi (A:=[(pv,⟨rnC ds,true⟩)]) hO
   ·rw[hok]; rfl
 ·have e:y=ds.length:=by omega
  subst e
  rw[List.drop_of_length_le (Nat.le_refl _)] at hok
  exact hk1 hok _ hO.left
theorem zup(hl:l.length≤1000000)(hO:St H Γ)(hk:∀ H',St H' Γ→K (int (nm4 l)) H'):wCall P zff [str l] H K:=by
 apply zTr; unfold zJq
 refine zVq hl hO ?_
 clear hO
 intro H v hO hv
 have hsl:(zws l).length≤l.length:=zis _ _
 unfold nm4 at hk
 generalize zws l=ds at *
 refine zEa (fun l' H'=>l'=[int 0,v]∧H=H'∧¬ (ds.length=0∨ds.length > 24)) ?_ ?_
 ·refine zxa hv.lenSl ?_
  refine zaa zYa ?_
  refine zoa (fun h=>?_) (fun h=>?_)
  ·repeat (first|refine oi ?_|refine ow ?_|refine wy ?_|refine wn ?_|refine wt ?_|refine wf' ?_|refine cy ?_|refine cn ?_)
   have:=hk H hO.left
   rw[if_pos (.inl (by omega))] at this
   exact this
  ·refine zxa hv.lenSl ?_
   refine zaa zKc ?_
   refine zaa (zsb h) ?_
   refine zoa (fun h2=>?_) (fun h2=>?_)
   ·have:=hk H hO.left
    rw[if_pos (.inr (by omega))] at this
    exact this
   ·exact⟨rfl,rfl,by omega⟩
 rintro l' H' ⟨rfl,rfl,hn⟩
 try simp only[zja,zka]
 rw[if_neg hn] at hk
 refine zxa hv.lenSl ?_
 refine zRA (by omega) hv hO ?_ ?_
 ·intro h H hO
  rw[if_pos h] at hk
  exact hk H hO
 ·intro h H hO
  rw[if_neg (by rw[h]; simp)] at hk
  exact hk H hO
end J
set_option maxRecDepth 100000
namespace J
open Go Go.Ab
variable{l m:List UInt8}{ds:List (List UInt8)}
abbrev bsl(l:List UInt8):ByteArray:=⟨l.toArray⟩
theorem zIH(l:List UInt8)(k:Nat):((bsl l).get! k).toNat=cb l k:=by
 show ((l.toArray)[k]!).toNat=(l.getD k 0).toNat
 rw[List.getD_eq_getElem?_getD]
 by_cases h:k < l.length
 ·rw[getElem!_pos _ _ (by simpa using h),List.getElem?_eq_getElem h]; rfl
 ·rw[getElem!_neg _ _ (by simpa using h),List.getElem?_eq_none (by omega)]; rfl
theorem zOg(l:List UInt8):(bsl l).size=l.length:=rfl
set_option maxHeartbeats 4000000 in
theorem zhE(hl:l≠[]):(o4 l=none→Utf8.decode (bsl l) 0=(65533,1))∧(∀ r,o4 l=some r→Utf8.decode (bsl l) 0=r):=by
 have hl1:0 < l.length:=List.length_pos_iff.2 hl
 have c0:=zAi l 0
 have c1:=zAi l 1
 have c2:=zAi l 2
 have c3:=zAi l 3
 have key:Utf8.decode (bsl l) 0=(o4 l).getD (65533,1):=by
  unfold Utf8.decode
  simp only[Nat.zero_add,zIH,zOg,Utf8.runeError,Utf8.valid]
  unfold o4 ztu
  have hi:∀ c,(decide (isC c)=true)=(128≤c∧c≤191):=fun c=>by rw[decide_eq_true_eq]; rfl
  simp only[zhy,nP,hi,Bool.true_and,Bool.and_eq_true,decide_eq_true_eq,beq_iff_eq,Nat.add_one_sub_one,Nat.reduceSub,Nat.reduceAdd]
  generalize cb l 0=a at *
  generalize cb l 1=b at *
  generalize cb l 2=c at *
  generalize cb l 3=d at *
  generalize l.length=n at *
  simp only[Bool.or_eq_true,Bool.and_eq_true,decide_eq_true_eq]
  repeat' split
  all_goals simp only[Option.getD_some,Option.getD_none]
  all_goals first
   | rfl
   | (exfalso; omega)
   | (refine Prod.ext ?_ rfl; show (_:Nat)=_; omega)
 constructor
 ·intro h; rw[key,h]; rfl
 ·intro r h; rw[key,h]; rfl
theorem zJH{r:Nat × Nat}(h:o4 l=some r):¬ (r.1=65533∧r.2=1):=by
 have:=zAi l 0
 unfold o4 at h
 split at h
 ·cases h; simp only; omega
 split at h
 ·have:=(zMf h).2; omega
 split at h
 ·have:=(zMf h).2; omega
 split at h
 ·have:=(zMf h).2; omega
 ·cases h
theorem zCv{size n0 least:Nat}{r:Nat × Nat}(h:ztu l size n0 least=some r):least≤r.1:=by
 unfold ztu at h
 split at h
 ·cases h
 ·split at h
  ·split at h
   ·cases h
   ·cases h; simp only; omega
  ·cases h
theorem zKH{r:Nat × Nat}(h:o4 l=some r):(r.1 < 128→r.2=1∧r.1=cb l 0)∧(r.2=1→r.1=cb l 0∧r.1 < 128):=by
 have:=zAi l 0
 unfold o4 at h
 split at h
 ·cases h; exact⟨fun _=>⟨rfl,rfl⟩,fun _=>⟨rfl,by assumption⟩⟩
 split at h
 ·have:=(zMf h).2; have:=zCv h; exact⟨fun _=>by omega,fun _=>by omega⟩
 split at h
 ·have:=(zMf h).2; have:=zCv h; exact⟨fun _=>by omega,fun _=>by omega⟩
 split at h
 ·have:=(zMf h).2; have:=zCv h; exact⟨fun _=>by omega,fun _=>by omega⟩
 ·cases h
theorem zDv{r:Nat × Nat}(hl:l≠[])(h:o4 l=some r)(c:UInt8)(hc:c.toNat < 128):(l.take r.2 == [c])=((r.1:Int) == (c.toNat:Int)):=by
 obtain⟨h1,h2⟩:=zKH h
 obtain⟨w1,w2,w3⟩:=zQA h hl
 match l,hl with
 | a::t,_=>
 have ha:cb (a::t) 0=a.toNat:=rfl
 rw[Bool.eq_iff_iff,beq_iff_eq,beq_iff_eq]
 constructor
 ·intro e
  have hw:r.2=1:=by
   have:=congrArg List.length e
   rw[List.length_take] at this
   simp at this
   simp at w3
   omega
  rw[hw] at e
  have e:[a]=[c]:=by simpa using e
  cases e
  have:=(h2 hw).1
  rw[this,ha]
 ·intro e
  have hr:r.1=c.toNat:=by omega
  obtain⟨hw,hq⟩:=h1 (by omega)
  rw[hw]
  have:a=c:=by
   apply UInt8.toNat_inj.1
   omega
  simp[this]
theorem zSA(l:List UInt8)(pos i:Nat)(hp:pos < l.length):Seal.badF (bsl l) pos i=!okR (l.drop pos) (i == 0)∧(Utf8.decode (bsl l) pos).2=wid (l.drop pos):=by
 have hne:l.drop pos≠[]:=by
  intro h
  have:=congrArg List.length h
  simp at this
  omega
 have hx:(bsl l).extract pos (bsl l).size=bsl (l.drop pos):=by
  apply ByteArray.ext
  apply Array.ext'
  show _=l.drop pos
  rw[ByteArray.data_extract,Array.toList_extract]
  simp only[List.extract,zOg]
  exact List.take_of_length_le (by simp)
 have ht:=Go.Lib.tail_decode (bsl l) pos 0
 rw[hx,Nat.add_zero] at ht
 obtain⟨d0,d1⟩:=zhE hne
 have hz:(((i:Int)) == 0)=(i == 0):=by cases i <;> rfl
 unfold Seal.badF Seal.brF
 rw[hx]
 have hgo:Go.Lib.decodeGo (bsl (l.drop pos))=Utf8.decode (bsl (l.drop pos)) 0:=by
  unfold Go.Lib.decodeGo
  rw[if_neg (by rw[zOg]; intro h; exact hne (List.length_eq_zero_iff.1 h))]
 rw[hgo,← ht,hz]
 cases ho:o4 (l.drop pos) with
 | none=>
  rw[d0 ho]
  unfold okR wid
  rw[ho]
  exact⟨rfl,rfl⟩
 | some r=>
  rw[d1 r ho]
  refine⟨?_,by unfold wid; rw[ho]⟩
  have hfd:=zJH ho
  rw[decide_eq_false (show ¬ ((r.1:Int)=65533∧r.2=1) by omega),Bool.false_or]
  unfold okR Seal.partF
  rw[ho]
  simp only
  rw[zDv hne ho 45 (by decide),zDv hne ho 95 (by decide),zDv hne ho 46 (by decide)]
  show (!_)=!_
  congr 2
  rw[show ((45:UInt8).toNat:Int)=45 from rfl,show ((95:UInt8).toNat:Int)=95 from rfl,show ((46:UInt8).toNat:Int)=46 from rfl]
  simp only[Bool.or_assoc]
theorem ziE(l:List UInt8):∀ (b pos i:Nat),pos≤l.length→Seal.nmF (bsl l) b pos i=if zHm i (zPt b (l.drop pos))=true then Seal.finF ((i+(zPt b (l.drop pos)).length:Nat):Int) else 41
 | 0,pos,i,_=>by
  show Seal.finF i=if zHm i []=true then Seal.finF ((i+0:Nat):Int) else 41
  rfl
 | b+1,pos,i,hp=>by
  unfold Seal.nmF zPt
  by_cases h:pos < l.length
  ·obtain⟨h1,h2⟩:=zSA l pos i h
   have hne:l.drop pos≠[]:=by
    intro h
    have:=congrArg List.length h
    simp at this
    omega
   have hw:=zhs hne
   rw[List.length_drop] at hw
   rw[if_pos (show pos < (bsl l).size from h),if_neg hne,h1,h2]
   cases ho:okR (l.drop pos) (i == 0) with
   | false=>
    rw[if_pos (show (!false)=true from rfl),if_neg]
    show ¬ (okR (l.drop pos) (i == 0) && zHm (i+1) _)=true
    rw[ho]; simp
   | true=>
    rw[if_neg (show ¬ (!true)=true by simp)]
    have ih:=ziE l b (pos+wid (l.drop pos)) (i+1) (by omega)
    rw[show ((i:Int)+1)=((i+1:Nat):Int) by omega,ih,List.drop_drop]
    show _=if (okR (l.drop pos) (i == 0) && zHm (i+1) _)=true then _ else _
    rw[ho,Bool.true_and,List.length_cons,show i+((zPt b (l.drop (pos+wid (l.drop pos)))).length+1)=i+1+(zPt b (l.drop (pos+wid (l.drop pos)))).length by omega]
  ·have hnil:l.drop pos=[]:=List.drop_of_length_le (by omega)
   rw[if_neg (show ¬ pos < (bsl l).size from h),if_pos hnil]
   rfl
theorem zjE(l:List UInt8):nm4 l=Seal.nmF (bsl l) (bsl l).size 0 0:=by
 have:=ziE l l.length 0 0 (Nat.zero_le _)
 rw[List.drop_zero,Nat.zero_add] at this
 rw[zOg]
 refine Eq.trans ?_ this.symm
 unfold nm4 Seal.finF
 show _=if zHm 0 (zws l)=true then (if (((zws l).length:Nat):Int) < 1∨(((zws l).length:Nat):Int) > 24 then 41 else 0) else 41
 by_cases h1:(zws l).length=0∨(zws l).length > 24
 ·rw[if_pos h1]
  split
  ·rw[if_pos (by omega)]
  ·rfl
 ·rw[if_neg h1]
  split
  ·rw[if_neg (by omega)]
  ·rfl
end J
set_option maxRecDepth 100000
namespace J
open Go Go.Ab
variable{H:Heap}{Γ Γ0 Γ2 Δ G L:List (Nat × Blk)}{K:VH}{v w x cv dv:Value}{xs ys zs bs b key ms:List Int}{j p q o n k:Nat}{e:Int}{cs cs':List Value}{l:List UInt8}
structure Mf where
 pr:List UInt8
 ver:Nat
 sz:Int
 ck:Int
 dg:List Int
 cks:List (List Int)
abbrev By(xs:List Int):Prop:=∀ x ∈ xs,0≤x∧x≤255
structure Mf.Ok (m:Mf):Prop where
 dl:m.dg.length=32
 db:By m.dg
 cl:∀ x ∈ m.cks,x.length=32
 cb:∀ x ∈ m.cks,By x
 ver:m.ver < 18446744073709551616
 sz:-9223372036854775808≤m.sz∧m.sz≤9223372036854775807
 ck:-9223372036854775808≤m.ck∧m.ck≤9223372036854775807
 n:m.cks.length≤10000
 pl:m.pr.length≤10000
def mfC(m:Mf)(cv:Value):List Value:=str m.pr::zwb .u64 m.ver::int m.sz::int m.ck::(by8 m.dg++[cv])
abbrev hsC(l:List (List Int)):List Value:=l.flatMap by8
def RdH(Γ:List (Nat × Blk))(v:Value)(cks:List (List Int)):Prop:=
 (v=zwa∧cks=[])∨∃ (p c j:Nat) (w:Bool),v=sl p 0 cks.length c∧Γ[j]?=some (p,(⟨hsC cks,w⟩:Blk))
variable{m:Mf}{cks:List (List Int)}
theorem RdH.lenSl(h:RdH Γ v cks):lenSl v H=some (int cks.length,H):=by
 rcases h with⟨rfl,rfl⟩|⟨p,c,j,w,rfl,_⟩ <;> rfl
theorem RdH.shape(h:RdH Γ v cks):∃ a n c,v=.slice a n c:=by
 rcases h with⟨rfl,_⟩|⟨p,c,j,w,rfl,_⟩ <;> exact⟨_,_,_,rfl⟩
theorem RdH.app(h:RdH Γ v cks):RdH (Γ++Δ) v cks:=by
 rcases h with h|⟨p,c,j,w,h1,h2⟩
 ·exact .inl h
 ·exact .inr ⟨p,c,j,w,h1,zAa h2⟩
theorem RdH.app'(h:RdH Δ v cks):RdH (Γ++Δ) v cks:=by
 rcases h with h|⟨p,c,j,w,h1,h2⟩
 ·exact .inl h
 ·exact .inr ⟨p,c,Γ.length+j,w,h1,zza h2⟩
theorem RdH.pos(h:RdH Γ v cks)(h0:0 < cks.length):∃ (p c j:Nat) (w:Bool),v=sl p 0 cks.length c∧Γ[j]?=some (p,(⟨hsC cks,w⟩:Blk)):=by
 rcases h with⟨_,rfl⟩|h
 ·simp at h0
 ·exact h
theorem zta(hd:m.dg.length=32):(mfC m cv).length=37:=by simp[mfC,hd]
theorem zzf(hd:m.dg.length=32):(mfC m cv)[0+36]?=some cv:=by
 show (by8 m.dg++[cv])[32]?=_
 rw[List.getElem?_append_right (by simp[hd])]
 simp[hd]
theorem zlc(hc:oneCell cv=true):(mfC m cv).all oneCell=true:=by
 show (true && (true && (true && (true && (by8 m.dg++[cv]).all oneCell))))=true
 rw[List.all_append,zze]
 simp[hc]
theorem zce(hc:zrb cv=true):(mfC m cv).all zrb=true:=by
 show (true && (true && (true && (true && (by8 m.dg++[cv]).all zrb))))=true
 rw[List.all_append,zxd]
 simp[hc]
theorem RdH.one(h:RdH Γ v cks):oneCell v=true:=by obtain⟨a,n,c,rfl⟩:=h.shape; rfl
theorem RdH.simple(h:RdH Γ v cks):zrb v=true:=by
 rcases h with⟨rfl,_⟩|⟨p,c,j,w,rfl,_⟩ <;> rfl
theorem zNf:zBa (agg (mfC m cv))=mfC m cv:=rfl
def cnt(s c:Int):Int:=if s < 1∨c < 1 then 0 else (s - 1) / c+1
theorem zIm{s c:Int}:0≤cnt s c:=by
 unfold cnt
 split
 ·omega
 ·have:=Int.ediv_nonneg (show 0≤s - 1 by omega) (show 0≤c by omega)
  omega
theorem zLH{s c:Nat}(hs:1≤s)(hc:1≤c):(s - 1) / c+1=s / c+(if s % c > 0 then 1 else 0):=by
 have h1:=Nat.div_add_mod s c
 have h2:=Nat.mod_lt s hc
 generalize s / c=Q at *
 generalize s % c=R at *
 subst h1
 by_cases hr:R=0
 ·subst hr
  rw[if_neg (by omega)]
  have hq:1≤Q:=by
   rcases Nat.eq_zero_or_pos Q with rfl|h
   ·simp at hs
   ·exact h
  obtain⟨t,rfl⟩:∃ t,Q=t+1:=⟨Q - 1,by omega⟩
  have:c * (t+1)+0 - 1=c * t+(c - 1):=by rw[Nat.mul_succ]; omega
  rw[this,Nat.mul_add_div (by omega),Nat.div_eq_of_lt (by omega)]
 ·rw[if_pos (by omega)]
  have:c * Q+R - 1=c * Q+(R - 1):=by omega
  rw[this,Nat.mul_add_div (by omega),Nat.div_eq_of_lt (by omega)]
theorem zWq{s c:Int}(hs:s≤9223372036854775807)(hc:c≤9223372036854775807)(hk:K (int (cnt s c)) H):wCall P zNd [int s,int c] H K:=by
 apply zDm; unfold zwk
 by_cases h1:s < 1
 ·refine zYb ?_
  repeat (first|refine oi ?_|refine ow ?_|refine wy ?_|refine wn ?_|refine wt ?_|refine wf' ?_|refine cy ?_|refine cn ?_)
  unfold cnt at hk
  rw[if_pos (.inl h1)] at hk
  exact hk
 by_cases h2:c < 1
 ·refine zYb ?_
  repeat (first|refine oi ?_|refine ow ?_|refine wy ?_|refine wn ?_|refine wt ?_|refine wf' ?_|refine cy ?_|refine cn ?_)
  unfold cnt at hk
  rw[if_pos (.inr h2)] at hk
  exact hk
 refine zEa (fun l' H'=>l'=[int s,int c]∧H=H') ?_ ?_
 ·repeat (first|refine oi ?_|refine ow ?_|refine wy ?_|refine wn ?_|refine wt ?_|refine wf' ?_|refine cy ?_|refine cn ?_)
  exact⟨(by first|rfl|trivial),(by first|rfl|trivial)⟩
 rintro l' H' ⟨rfl,rfl⟩
 try simp only[zja,zka]
 obtain⟨S,rfl⟩:∃ S:Nat,s=S:=⟨s.toNat,by omega⟩
 obtain⟨C,rfl⟩:∃ C:Nat,c=C:=⟨c.toNat,by omega⟩
 unfold cnt at hk
 rw[if_neg (by omega)] at hk
 repeat (first|refine oi ?_|refine ow ?_|refine wy ?_|refine wn ?_|refine wt ?_|refine wf' ?_|refine cy ?_|refine cn ?_)
 refine zaa (v:=int (((S - 1) / C:Nat):Int)) (by rw[show (S:Int) - 1=((S - 1:Nat):Int) by omega]; exact zes (by omega) (by omega)) ?_
 have hle:=Nat.div_le_self (S - 1) C
 rw[show ((S:Int) - 1) / C+1=(((S - 1) / C:Nat):Int)+1 by rw[show (S:Int) - 1=((S - 1:Nat):Int) by omega,Int.natCast_ediv]] at hk
 generalize (S - 1) / C=Q at *
 repeat (first|refine oi ?_|refine ow ?_|refine wy ?_|refine wn ?_|refine wt ?_|refine wf' ?_|refine cy ?_|refine cn ?_)
 exact hk
theorem zui{s c:Int}(hs:s≤9223372036854775806)(hc:c≤9223372036854775807)(hk:K (int (cnt s c)) H):wCall P zIf [int s,int c] H K:=by
 apply zZp; unfold zcp
 by_cases h1:s < 1
 ·refine zYb ?_
  repeat (first|refine oi ?_|refine ow ?_|refine wy ?_|refine wn ?_|refine wt ?_|refine wf' ?_|refine cy ?_|refine cn ?_)
  unfold cnt at hk
  rw[if_pos (.inl h1)] at hk
  exact hk
 by_cases h2:c < 1
 ·refine zYb ?_
  repeat (first|refine oi ?_|refine ow ?_|refine wy ?_|refine wn ?_|refine wt ?_|refine wf' ?_|refine cy ?_|refine cn ?_)
  unfold cnt at hk
  rw[if_pos (.inr h2)] at hk
  exact hk
 refine zEa (fun l' H'=>l'=[int s,int c]∧H=H') ?_ ?_
 ·repeat (first|refine oi ?_|refine ow ?_|refine wy ?_|refine wn ?_|refine wt ?_|refine wf' ?_|refine cy ?_|refine cn ?_)
  exact⟨(by first|rfl|trivial),(by first|rfl|trivial)⟩
 rintro l' H' ⟨rfl,rfl⟩
 try simp only[zja,zka]
 obtain⟨S,rfl⟩:∃ S:Nat,s=S:=⟨s.toNat,by omega⟩
 obtain⟨C,rfl⟩:∃ C:Nat,c=C:=⟨c.toNat,by omega⟩
 unfold cnt at hk
 rw[if_neg (by omega)] at hk
 have hup:=zLH (s:=S) (c:=C) (by omega) (by omega)
 have hle:=Nat.div_le_self S C
 rw[show ((S:Int) - 1) / C+1=(((S - 1) / C+1:Nat):Int) by rw[show (S:Int) - 1=((S - 1:Nat):Int) by omega]; rfl,hup] at hk
 refine zaa (zes (by omega) (by omega)) ?_
 generalize S / C=Q at *
 refine zaa (zHr (by omega)) ?_
 rw[show (Int.tmod (S:Int) (C:Int))=((S % C:Nat):Int) from rfl]
 refine zaa zKc ?_
 refine zoa (fun h=>?_) (fun h=>?_)
 ·rw[if_pos (by omega)] at hk
  repeat (first|refine oi ?_|refine ow ?_|refine wy ?_|refine wn ?_|refine wt ?_|refine wf' ?_|refine cy ?_|refine cn ?_)
  exact hk
 ·rw[if_neg (by omega)] at hk
  exact hk
def zRl(l:List UInt8):Int:=Seal.nmF (bsl l) (bsl l).size 0 0
def zIa(m:Mf):Prop:=zRl m.pr=0∧1≤m.ver∧m.ver≤281474976710656∧1≤m.sz∧m.sz≤65536∧64≤m.ck∧m.ck≤1024∧m.ck % 64=0∧(m.cks.length:Int)=cnt m.sz m.ck∧m.cks.length≤64
instance (m:Mf):Decidable (zIa m):=by unfold zIa; exact inferInstance
theorem zjy(hl:l.length≤1000000)(hO:St H Γ)(hk:∀ H',St H' Γ→K (int (zRl l)) H'):wCall P zff [str l] H K:=
 zup hl hO fun H' h=>by rw[zjE]; exact hk H' h
theorem zRF(hl:l.length≤1000000)(hk:K (int (zRl l)) H):wCall P zSi [str l] H K:=
 zQo (by rw[zOg]; omega) hk
set_option maxHeartbeats 4000000 in
theorem zJj(ok:m.Ok)(hc:RdH Γ cv m.cks)(hO:St H Γ)(hk:∀ H',St H' Γ→K (.bool (decide (zIa m))) H'):wCall P zmc [agg (mfC m cv)] H K:=by
 apply zAm; unfold zvk
 have hno:∀ {H:Heap} {Δ},St H (Γ++Δ)→¬ zIa m→K (.bool false) H:=fun h hn=>by
  have:=hk _ h.left
  rw[decide_eq_false hn] at this; exact this
 have hsz:=ok.sz
 have hck:=ok.ck
 have hv:=ok.ver
 have hl:=ok.n
 have h36:=zzf (cv:=cv) ok.dl
 rw[zNf]
 refine nw hO.z ?_
 clear hO
 intro p1 H hO
 replace hO:St H (Γ++[(p1,⟨mfC m cv,true⟩)]):=hO
 refine zEa (fun l' H'=>l'=[ptr p1 0]∧H=H'∧zRl m.pr=0∧1≤m.ver∧m.ver≤281474976710656∧1≤m.sz∧m.sz≤65536∧64≤m.ck∧m.ck≤1024∧m.ck % 64=0) ?_ ?_
 ·refine zEa (fun l' H'=>l'=[ptr p1 0,.bool (decide (¬ (zRl m.pr=0∧1≤m.ver∧m.ver≤281474976710656)))]∧H=H') ?_ ?_
  ·repeat (first|refine oi ?_|refine ow ?_|refine wy ?_|refine wn ?_|refine wt ?_|refine wf' ?_|refine cy ?_|refine cn ?_|refine ld hO 0 rfl rfl ?_|refine ld hO 1 rfl rfl ?_|refine ld hO 2 rfl rfl ?_|refine ld hO 3 rfl rfl ?_|refine ld hO 4 rfl rfl ?_|refine ld hO 5 rfl rfl ?_)
   refine zRF (by have:=ok.pl; omega) ?_
   refine zaa zeb ?_
   refine zoa (fun h1=>?_) (fun h1=>?_)
   ·exact⟨by rw[decide_eq_decide.2 (show zRl m.pr≠0↔¬ (zRl m.pr=0∧1≤m.ver∧m.ver≤281474976710656) by omega)],(by first|rfl|trivial)⟩
   ·repeat (first|refine oi ?_|refine ow ?_|refine wy ?_|refine wn ?_|refine wt ?_|refine wf' ?_|refine cy ?_|refine cn ?_|refine ld hO 0 rfl rfl ?_|refine ld hO 1 rfl rfl ?_|refine ld hO 2 rfl rfl ?_|refine ld hO 3 rfl rfl ?_|refine ld hO 4 rfl rfl ?_|refine ld hO 5 rfl rfl ?_)
    refine zoa (fun h2=>?_) (fun h2=>?_)
    ·exact⟨by rw[decide_eq_decide.2 (show ((m.ver:Int) < 1)↔¬ (zRl m.pr=0∧1≤m.ver∧m.ver≤281474976710656) by omega)],(by first|rfl|trivial)⟩
    ·repeat (first|refine oi ?_|refine ow ?_|refine wy ?_|refine wn ?_|refine wt ?_|refine wf' ?_|refine cy ?_|refine cn ?_|refine ld hO 0 rfl rfl ?_|refine ld hO 1 rfl rfl ?_|refine ld hO 2 rfl rfl ?_|refine ld hO 3 rfl rfl ?_|refine ld hO 4 rfl rfl ?_|refine ld hO 5 rfl rfl ?_)
     exact⟨by rw[decide_eq_decide.2 (show ((281474976710656:Int) < (m.ver:Int))↔¬ (zRl m.pr=0∧1≤m.ver∧m.ver≤281474976710656) by omega)],(by first|rfl|trivial)⟩
  rintro l' H' ⟨rfl,rfl⟩
  try simp only[zja,zka]
  refine zoa (fun h1=>?_) (fun h1=>?_)
  ·exact hno hO (fun h=>h1 ⟨h.1,h.2.1,h.2.2.1⟩)
  refine zEa (fun l' H'=>l'=[ptr p1 0,.bool (decide (¬ (1≤m.sz∧m.sz≤65536)))]∧H=H') ?_ ?_
  ·repeat (first|refine oi ?_|refine ow ?_|refine wy ?_|refine wn ?_|refine wt ?_|refine wf' ?_|refine cy ?_|refine cn ?_|refine ld hO 0 rfl rfl ?_|refine ld hO 1 rfl rfl ?_|refine ld hO 2 rfl rfl ?_|refine ld hO 3 rfl rfl ?_|refine ld hO 4 rfl rfl ?_|refine ld hO 5 rfl rfl ?_)
   refine zoa (fun h2=>?_) (fun h2=>?_)
   ·repeat (first|refine oi ?_|refine ow ?_|refine wy ?_|refine wn ?_|refine wt ?_|refine wf' ?_|refine cy ?_|refine cn ?_|refine ld hO 0 rfl rfl ?_|refine ld hO 1 rfl rfl ?_|refine ld hO 2 rfl rfl ?_|refine ld hO 3 rfl rfl ?_|refine ld hO 4 rfl rfl ?_|refine ld hO 5 rfl rfl ?_)
    exact⟨by rw[decide_eq_true (show ¬ (1≤m.sz∧m.sz≤65536) by omega)],(by first|rfl|trivial)⟩
   ·repeat (first|refine oi ?_|refine ow ?_|refine wy ?_|refine wn ?_|refine wt ?_|refine wf' ?_|refine cy ?_|refine cn ?_|refine ld hO 0 rfl rfl ?_|refine ld hO 1 rfl rfl ?_|refine ld hO 2 rfl rfl ?_|refine ld hO 3 rfl rfl ?_|refine ld hO 4 rfl rfl ?_|refine ld hO 5 rfl rfl ?_)
    exact⟨by rw[decide_eq_decide.2 (show ((65536:Int) < m.sz)↔¬ (1≤m.sz∧m.sz≤65536) by omega)],(by first|rfl|trivial)⟩
  rintro l' H' ⟨rfl,rfl⟩
  try simp only[zja,zka]
  refine zoa (fun h2=>?_) (fun h2=>?_)
  ·exact hno hO (fun h=>h2 ⟨h.2.2.2.1,h.2.2.2.2.1⟩)
  repeat (first|refine oi ?_|refine ow ?_|refine wy ?_|refine wn ?_|refine wt ?_|refine wf' ?_|refine cy ?_|refine cn ?_|refine ld hO 0 rfl rfl ?_|refine ld hO 1 rfl rfl ?_|refine ld hO 2 rfl rfl ?_|refine ld hO 3 rfl rfl ?_|refine ld hO 4 rfl rfl ?_|refine ld hO 5 rfl rfl ?_)
  refine zoa (fun h3=>?_) (fun h3=>?_)
  ·repeat (first|refine oi ?_|refine ow ?_|refine wy ?_|refine wn ?_|refine wt ?_|refine wf' ?_|refine cy ?_|refine cn ?_|refine ld hO 0 rfl rfl ?_|refine ld hO 1 rfl rfl ?_|refine ld hO 2 rfl rfl ?_|refine ld hO 3 rfl rfl ?_|refine ld hO 4 rfl rfl ?_|refine ld hO 5 rfl rfl ?_)
   exact hno hO (fun h=>by have:=h.2.2.2.2.2.1; omega)
  repeat (first|refine oi ?_|refine ow ?_|refine wy ?_|refine wn ?_|refine wt ?_|refine wf' ?_|refine cy ?_|refine cn ?_|refine ld hO 0 rfl rfl ?_|refine ld hO 1 rfl rfl ?_|refine ld hO 2 rfl rfl ?_|refine ld hO 3 rfl rfl ?_|refine ld hO 4 rfl rfl ?_|refine ld hO 5 rfl rfl ?_)
  refine zoa (fun h4=>?_) (fun h4=>?_)
  ·repeat (first|refine oi ?_|refine ow ?_|refine wy ?_|refine wn ?_|refine wt ?_|refine wf' ?_|refine cy ?_|refine cn ?_|refine ld hO 0 rfl rfl ?_|refine ld hO 1 rfl rfl ?_|refine ld hO 2 rfl rfl ?_|refine ld hO 3 rfl rfl ?_|refine ld hO 4 rfl rfl ?_|refine ld hO 5 rfl rfl ?_)
   exact hno hO (fun h=>by have:=h.2.2.2.2.2.2.1; omega)
  repeat (first|refine oi ?_|refine ow ?_|refine wy ?_|refine wn ?_|refine wt ?_|refine wf' ?_|refine cy ?_|refine cn ?_|refine ld hO 0 rfl rfl ?_|refine ld hO 1 rfl rfl ?_|refine ld hO 2 rfl rfl ?_|refine ld hO 3 rfl rfl ?_|refine ld hO 4 rfl rfl ?_|refine ld hO 5 rfl rfl ?_)
  have em:m.ck.tmod 64=m.ck % 64:=Int.tmod_eq_emod_of_nonneg (by omega)
  refine zaa (zHr (by omega)) ?_
  rw[em]
  repeat (first|refine oi ?_|refine ow ?_|refine wy ?_|refine wn ?_|refine wt ?_|refine wf' ?_|refine cy ?_|refine cn ?_|refine ld hO 0 rfl rfl ?_|refine ld hO 1 rfl rfl ?_|refine ld hO 2 rfl rfl ?_|refine ld hO 3 rfl rfl ?_|refine ld hO 4 rfl rfl ?_|refine ld hO 5 rfl rfl ?_)
  refine zoa (fun h5=>?_) (fun h5=>?_)
  ·exact hno hO (fun h=>h5 h.2.2.2.2.2.2.2.1)
  ·refine⟨(by first|rfl|trivial),(by first|rfl|trivial),?_⟩
   omega
 rintro l' H' ⟨rfl,rfl,g1,g2,g3,g4,g5,g6,g7,g8⟩
 try simp only[zja,zka]
 refine zaa zba ?_
 refine ld hO 0 rfl h36 ?_
 refine zxa hc.lenSl ?_
 repeat (first|refine oi ?_|refine ow ?_|refine wy ?_|refine wn ?_|refine wt ?_|refine wf' ?_|refine cy ?_|refine cn ?_|refine ld hO 0 rfl rfl ?_|refine ld hO 1 rfl rfl ?_|refine ld hO 2 rfl rfl ?_|refine ld hO 3 rfl rfl ?_|refine ld hO 4 rfl rfl ?_|refine ld hO 5 rfl rfl ?_)
 refine zWq (by omega) (by omega) ?_
 refine⟨zFb hO (Γ.length+0) (zza rfl) hO (Γ.length+0) (zza rfl) (zce hc.simple),?_⟩
 refine zaa zYa ?_
 refine zoa (fun h6=>?_) (fun h6=>?_)
 ·refine zaa zba ?_
  refine ld hO 0 rfl h36 ?_
  refine zxa hc.lenSl ?_
  refine zaa zdv ?_
  refine zaa (zub h6) ?_
  have:=hk _ hO.left
  rw[decide_eq_decide.2 (show zIa m↔((m.cks.length:Int)≤64) from⟨fun h=>by have:=h.2.2.2.2.2.2.2.2.2; omega,fun h=>⟨g1,g2,g3,g4,g5,g6,g7,g8,h6,by omega⟩⟩)] at this
  exact this
 ·refine zaa (zsb h6) ?_
  exact hno hO (fun h=>h6 h.2.2.2.2.2.2.2.2.1)
set_option maxHeartbeats 4000000 in
theorem zUc(ok:m.Ok)(hc:RdH Γ cv m.cks)(hO:St H Γ)(hk:∀ H',St H' Γ→K (.bool (decide (zIa m))) H'):wCall P zMc [agg (mfC m cv)] H K:=by
 apply zUp; unfold zVo
 have hno:∀ {H:Heap} {Δ},St H (Γ++Δ)→¬ zIa m→K (.bool false) H:=fun h hn=>by
  have:=hk _ h.left
  rw[decide_eq_false hn] at this; exact this
 have hsz:=ok.sz
 have hck:=ok.ck
 have hv:=ok.ver
 have hl:=ok.n
 have h36:=zzf (cv:=cv) ok.dl
 rw[zNf]
 refine nw hO.z ?_
 clear hO
 intro p1 H hO
 replace hO:St H (Γ++[(p1,⟨mfC m cv,true⟩)]):=hO
 refine zEa (fun l' H'=>l'=[ptr p1 0]∧St H' (Γ++[(p1,⟨mfC m cv,true⟩)])∧zRl m.pr=0∧1≤m.ver∧m.ver≤281474976710656∧1≤m.sz∧m.sz≤65536) ?_ ?_
 ·repeat (first|refine oi ?_|refine ow ?_|refine wy ?_|refine wn ?_|refine wt ?_|refine wf' ?_|refine cy ?_|refine cn ?_|refine ld hO 0 rfl rfl ?_|refine ld hO 1 rfl rfl ?_|refine ld hO 2 rfl rfl ?_|refine ld hO 3 rfl rfl ?_|refine ld hO 4 rfl rfl ?_|refine ld hO 5 rfl rfl ?_)
  refine zjy (by have:=ok.pl; omega) hO ?_
  clear hO
  intro H hO
  refine zaa zeb ?_
  refine zoa (fun h1=>?_) (fun h1=>?_)
  ·repeat (first|refine oi ?_|refine ow ?_|refine wy ?_|refine wn ?_|refine wt ?_|refine wf' ?_|refine cy ?_|refine cn ?_|refine ld hO 0 rfl rfl ?_|refine ld hO 1 rfl rfl ?_|refine ld hO 2 rfl rfl ?_|refine ld hO 3 rfl rfl ?_|refine ld hO 4 rfl rfl ?_|refine ld hO 5 rfl rfl ?_)
   exact hno hO (fun h=>h1 h.1)
  repeat (first|refine oi ?_|refine ow ?_|refine wy ?_|refine wn ?_|refine wt ?_|refine wf' ?_|refine cy ?_|refine cn ?_|refine ld hO 0 rfl rfl ?_|refine ld hO 1 rfl rfl ?_|refine ld hO 2 rfl rfl ?_|refine ld hO 3 rfl rfl ?_|refine ld hO 4 rfl rfl ?_|refine ld hO 5 rfl rfl ?_)
  refine zoa (fun h2=>?_) (fun h2=>?_)
  ·repeat (first|refine oi ?_|refine ow ?_|refine wy ?_|refine wn ?_|refine wt ?_|refine wf' ?_|refine cy ?_|refine cn ?_|refine ld hO 0 rfl rfl ?_|refine ld hO 1 rfl rfl ?_|refine ld hO 2 rfl rfl ?_|refine ld hO 3 rfl rfl ?_|refine ld hO 4 rfl rfl ?_|refine ld hO 5 rfl rfl ?_)
   exact hno hO (fun h=>by have:=h.2.1; omega)
  repeat (first|refine oi ?_|refine ow ?_|refine wy ?_|refine wn ?_|refine wt ?_|refine wf' ?_|refine cy ?_|refine cn ?_|refine ld hO 0 rfl rfl ?_|refine ld hO 1 rfl rfl ?_|refine ld hO 2 rfl rfl ?_|refine ld hO 3 rfl rfl ?_|refine ld hO 4 rfl rfl ?_|refine ld hO 5 rfl rfl ?_)
  refine zoa (fun h3=>?_) (fun h3=>?_)
  ·repeat (first|refine oi ?_|refine ow ?_|refine wy ?_|refine wn ?_|refine wt ?_|refine wf' ?_|refine cy ?_|refine cn ?_|refine ld hO 0 rfl rfl ?_|refine ld hO 1 rfl rfl ?_|refine ld hO 2 rfl rfl ?_|refine ld hO 3 rfl rfl ?_|refine ld hO 4 rfl rfl ?_|refine ld hO 5 rfl rfl ?_)
   exact hno hO (fun h=>by have:=h.2.2.1; omega)
  repeat (first|refine oi ?_|refine ow ?_|refine wy ?_|refine wn ?_|refine wt ?_|refine wf' ?_|refine cy ?_|refine cn ?_|refine ld hO 0 rfl rfl ?_|refine ld hO 1 rfl rfl ?_|refine ld hO 2 rfl rfl ?_|refine ld hO 3 rfl rfl ?_|refine ld hO 4 rfl rfl ?_|refine ld hO 5 rfl rfl ?_)
  refine zoa (fun h4=>?_) (fun h4=>?_)
  ·repeat (first|refine oi ?_|refine ow ?_|refine wy ?_|refine wn ?_|refine wt ?_|refine wf' ?_|refine cy ?_|refine cn ?_|refine ld hO 0 rfl rfl ?_|refine ld hO 1 rfl rfl ?_|refine ld hO 2 rfl rfl ?_|refine ld hO 3 rfl rfl ?_|refine ld hO 4 rfl rfl ?_|refine ld hO 5 rfl rfl ?_)
   exact hno hO (fun h=>by have:=h.2.2.2.1; omega)
  repeat (first|refine oi ?_|refine ow ?_|refine wy ?_|refine wn ?_|refine wt ?_|refine wf' ?_|refine cy ?_|refine cn ?_|refine ld hO 0 rfl rfl ?_|refine ld hO 1 rfl rfl ?_|refine ld hO 2 rfl rfl ?_|refine ld hO 3 rfl rfl ?_|refine ld hO 4 rfl rfl ?_|refine ld hO 5 rfl rfl ?_)
  refine zoa (fun h5=>?_) (fun h5=>?_)
  ·exact hno hO (fun h=>by have:=h.2.2.2.2.1; omega)
  ·exact⟨rfl,hO,by omega⟩
 clear hO
 rintro l' H ⟨rfl,hO,g1,g2,g3,g4,g5⟩
 try simp only[zja,zka]
 refine zEa (fun l' H'=>l'=[ptr p1 0]∧H=H'∧64≤m.ck∧m.ck≤1024∧m.ck % 64=0) ?_ ?_
 ·repeat (first|refine oi ?_|refine ow ?_|refine wy ?_|refine wn ?_|refine wt ?_|refine wf' ?_|refine cy ?_|refine cn ?_|refine ld hO 0 rfl rfl ?_|refine ld hO 1 rfl rfl ?_|refine ld hO 2 rfl rfl ?_|refine ld hO 3 rfl rfl ?_|refine ld hO 4 rfl rfl ?_|refine ld hO 5 rfl rfl ?_)
  refine zoa (fun h3=>?_) (fun h3=>?_)
  ·repeat (first|refine oi ?_|refine ow ?_|refine wy ?_|refine wn ?_|refine wt ?_|refine wf' ?_|refine cy ?_|refine cn ?_|refine ld hO 0 rfl rfl ?_|refine ld hO 1 rfl rfl ?_|refine ld hO 2 rfl rfl ?_|refine ld hO 3 rfl rfl ?_|refine ld hO 4 rfl rfl ?_|refine ld hO 5 rfl rfl ?_)
   exact hno hO (fun h=>by have:=h.2.2.2.2.2.1; omega)
  repeat (first|refine oi ?_|refine ow ?_|refine wy ?_|refine wn ?_|refine wt ?_|refine wf' ?_|refine cy ?_|refine cn ?_|refine ld hO 0 rfl rfl ?_|refine ld hO 1 rfl rfl ?_|refine ld hO 2 rfl rfl ?_|refine ld hO 3 rfl rfl ?_|refine ld hO 4 rfl rfl ?_|refine ld hO 5 rfl rfl ?_)
  refine zoa (fun h4=>?_) (fun h4=>?_)
  ·repeat (first|refine oi ?_|refine ow ?_|refine wy ?_|refine wn ?_|refine wt ?_|refine wf' ?_|refine cy ?_|refine cn ?_|refine ld hO 0 rfl rfl ?_|refine ld hO 1 rfl rfl ?_|refine ld hO 2 rfl rfl ?_|refine ld hO 3 rfl rfl ?_|refine ld hO 4 rfl rfl ?_|refine ld hO 5 rfl rfl ?_)
   exact hno hO (fun h=>by have:=h.2.2.2.2.2.2.1; omega)
  repeat (first|refine oi ?_|refine ow ?_|refine wy ?_|refine wn ?_|refine wt ?_|refine wf' ?_|refine cy ?_|refine cn ?_|refine ld hO 0 rfl rfl ?_|refine ld hO 1 rfl rfl ?_|refine ld hO 2 rfl rfl ?_|refine ld hO 3 rfl rfl ?_|refine ld hO 4 rfl rfl ?_|refine ld hO 5 rfl rfl ?_)
  have em:m.ck.tmod 64=m.ck % 64:=Int.tmod_eq_emod_of_nonneg (by omega)
  refine zaa (zHr (by omega)) ?_
  rw[em]
  repeat (first|refine oi ?_|refine ow ?_|refine wy ?_|refine wn ?_|refine wt ?_|refine wf' ?_|refine cy ?_|refine cn ?_|refine ld hO 0 rfl rfl ?_|refine ld hO 1 rfl rfl ?_|refine ld hO 2 rfl rfl ?_|refine ld hO 3 rfl rfl ?_|refine ld hO 4 rfl rfl ?_|refine ld hO 5 rfl rfl ?_)
  refine zoa (fun h5=>?_) (fun h5=>?_)
  ·exact hno hO (fun h=>h5 h.2.2.2.2.2.2.2.1)
  ·refine⟨(by first|rfl|trivial),(by first|rfl|trivial),?_⟩
   omega
 rintro l' H' ⟨rfl,rfl,g6,g7,g8⟩
 try simp only[zja,zka]
 refine zaa zba ?_
 refine ld hO 0 rfl h36 ?_
 refine zxa hc.lenSl ?_
 refine zaa zdv ?_
 refine zoa (fun h6=>?_) (fun h6=>?_)
 ·refine zaa zba ?_
  refine ld hO 0 rfl h36 ?_
  refine zxa hc.lenSl ?_
  repeat (first|refine oi ?_|refine ow ?_|refine wy ?_|refine wn ?_|refine wt ?_|refine wf' ?_|refine cy ?_|refine cn ?_|refine ld hO 0 rfl rfl ?_|refine ld hO 1 rfl rfl ?_|refine ld hO 2 rfl rfl ?_|refine ld hO 3 rfl rfl ?_|refine ld hO 4 rfl rfl ?_|refine ld hO 5 rfl rfl ?_)
  refine zui (by omega) (by omega) ?_
  refine⟨zFb hO (Γ.length+0) (zza rfl) hO (Γ.length+0) (zza rfl) (zce hc.simple),?_⟩
  refine zaa zYa ?_
  refine zaa (zub h6) ?_
  have:=hk _ hO.left
  rw[decide_eq_decide.2 (show zIa m↔((m.cks.length:Int)=cnt m.sz m.ck) from⟨fun h=>h.2.2.2.2.2.2.2.2.1,fun h=>⟨g1,g2,g3,g4,g5,g6,g7,g8,h,by omega⟩⟩)] at this
  exact this
 ·refine zaa (zsb h6) ?_
  exact hno hO (fun h=>by have:=h.2.2.2.2.2.2.2.2.2; omega)
end J
set_option maxRecDepth 100000
namespace J
open Go Go.Ab
variable{H:Heap}{Γ Γ0 Γ2 Δ G L:List (Nat × Blk)}{K:VH}{v w x cv dv:Value}{xs ys zs bs b key ms:List Int}{j p q o n k:Nat}{e:Int}{cs cs':List Value}{l:List UInt8}{m:Mf}{cks:List (List Int)}
def ub(l:List UInt8):List Int:=l.map fun b=>(b.toNat:Int)
theorem zBk:(ub l).length=l.length:=by simp[ub]
theorem zTI:By (ub l):=by
 intro x hx
 obtain⟨b,_,rfl⟩:=List.mem_map.1 hx
 have:=b.toNat_lt
 omega
theorem zMH:l.map zRg=by8 (ub l):=by simp[by8,ub,zRg]
theorem zTA(xs:List Int)(h:By xs):ub (xs.map fun n=>UInt8.ofNat n.toNat)=xs:=by
 unfold ub
 rw[List.map_map]
 conv=>rhs; rw[← List.map_id xs]
 refine List.map_congr_left fun x hx=>?_
 have:=h x hx
 show ((UInt8.ofNat x.toNat).toNat:Int)=x
 rw[UInt8.toNat_ofNat',Nat.mod_eq_of_lt (by omega)]
 omega
theorem zky(hO:St H Γ)(hk:∀ H' v',St H' (Γ++zRa v' (by8 (ub l)))→OwnB v' (ub l) (by8 (ub l))→K v' H'):opW (zLe (str l) H) K:=by
 refine zCa hO (show zLe (str l) H=some (sl H.next 0 l.length 2,H.push (by8 (ub l))) from ?_) ?_
 ·show zzb (l.map zRg) (znf l) 2 H=_
  rw[zMH,zOa]; rfl
 ·intro p H' hO'
  refine hk _ _ hO' (.inr ⟨p,.inl (by rw[zBk]),?_,by simp[by8],zxd _⟩)
  exact List.take_of_length_le (by simp[by8])
def txB(l:List UInt8):List Int:=leN 2 l.length++ub l
theorem zpJ(n:Nat):leN 2 n=[((n % 256:Nat):Int),((n / 256 % 256:Nat):Int)]:=by simp[leN,List.range_succ]
theorem zUI{n:Nat}:zbc .u8 (int n) H=some (zwb .u8 (n % 256),H):=by
 show some (Value.int .u8 (zwc .u8 (n:Int)),H)=_
 rw[zjh rfl]; rfl
theorem zvp(hO:St H Γ)(hl:l.length≤1000000)(hk:MadeB Γ K (txB l)):wCall P zPi [str l] H K:=by
 apply zUr; unfold zKq
 refine zxa zsp ?_
 refine zxa (zDG (by omega) (by omega)) ?_
 rw[Int.toNat_natCast]
 refine zTc (size:=2) hO (by omega) (by omega) ?_
 clear hO
 intro H v1 c1 hO hv1
 refine zky hO ?_
 clear hO
 intro H v2 hO hv2
 refine zUe hO hv1 hv2 (by rw[zsd,zBk]; omega) ?_
 exact hk
def zde(m:Mf):List Int:=if zIa m then txB m.pr++leN 8 m.ver++leN 4 m.sz.toNat++leN 2 m.ck.toNat++m.dg++m.cks.flatten else []
theorem zUA(hd:m.dg.length=32):((mfC m cv).drop 4).take 32=by8 m.dg:=by
 show (by8 m.dg++[cv]).take 32=_
 rw[List.take_append_of_le_length (by simp[hd]),List.take_of_length_le (by simp[hd])]
theorem zSF(h:∀ x ∈ cks,x.length=32){y:Nat}(hy:y < cks.length):((hsC cks).drop (0+(y:Int).toNat * 32)).take 32=by8 cks[y]:=by
 rw[show 0+(y:Int).toNat * 32=y * 32+0 by omega]
 rw[zpv (f:=by8) (n:=32) (fun x hx=>by rw[zoj]; exact h x hx) hy (by omega),List.drop_zero]
 exact List.take_of_length_le (by simp[h _ (List.getElem_mem hy)])
theorem zVA:∀ (l:List (List Int)),(∀ x ∈ l,x.length=32)→l.flatten.length=l.length * 32
 | [],_=>rfl
 | a::l,h=>by
  have h1:=zVA l fun x hx=>h x (List.mem_cons_of_mem _ hx)
  have h2:=h a List.mem_cons_self
  rw[List.flatten_cons,List.length_append,h1,h2,List.length_cons]; omega
set_option maxHeartbeats 2000000 in
theorem zKn(ok:m.Ok)(hc:RdH Γ cv m.cks)(hO:St H Γ)(hk:MadeB Γ K (zde m)):wCall P zHf [agg (mfC m cv)] H K:=by
 apply zVp; unfold zWo
 have h36:=zzf (cv:=cv) ok.dl
 have hpl:=ok.pl
 have hver:=ok.ver
 rw[zNf]
 refine nw hO.z ?_
 clear hO
 intro p1 H hO
 replace hO:St H (Γ++[(p1,⟨mfC m cv,true⟩)]):=hO
 refine zCa hO (zpn _) ?_
 clear hO
 intro q6 H hO
 replace hO:=hO.as
 refine lw hO 0 rfl (zta ok.dl) (by omega) ?_
 refine zUc ok hc.app hO ?_
 clear hO
 intro H hO
 refine zaa zJb ?_
 have hv6:OwnB (sl q6 0 0 3) [] []:=.inr ⟨q6,.inr ⟨rfl,rfl⟩,rfl,Nat.zero_le _,rfl⟩
 replace hO:St H (Γ++([(p1,⟨mfC m cv,true⟩)]++zRa (sl q6 0 0 3) [])):=hO
 rw[← List.append_assoc] at hO
 unfold zde at hk
 by_cases hr:zIa m
 ·rw[if_pos hr] at hk
  have hr':=hr
  obtain⟨_,g2,g3,g4,g5,g6,g7,_,_,g10⟩:=hr'
  rw[decide_eq_true hr]
  refine zKb rfl ?_
  refine zaa zba ?_
  refine zpa hO (Γ.length+0) (zAa (zza rfl)) (v:=str m.pr) rfl ?_
  refine zvp hO (by omega) ?_
  clear hO
  intro H v1 c1 hO hv1
  refine zUe hO hv6 hv1 (by simp[txB,zsd,zBk]; omega) ?_
  clear hO hv6 hv1
  intro H v2 c2 hO hv2
  rw[List.nil_append] at hv2
  refine zaa zba ?_
  refine zpa hO (Γ.length+0) (zAa (zza rfl)) (v:=zwb .u64 m.ver) rfl ?_
  refine zTc (size:=8) hO (by omega) (by omega) ?_
  clear hO
  intro H v1 c1 hO hv1
  refine zUe hO hv2 hv1 (by simp[txB,zsd,zBk]; omega) ?_
  clear hO hv2 hv1
  intro H v2 c2 hO hv2
  refine zaa zba ?_
  refine zpa hO (Γ.length+0) (zAa (zza rfl)) (v:=int m.sz) rfl ?_
  refine zxa (zDG (by omega) (by omega)) ?_
  refine zTc (size:=4) hO (by omega) (by omega) ?_
  clear hO
  intro H v1 c1 hO hv1
  refine zUe hO hv2 hv1 (by simp[txB,zsd,zBk]; omega) ?_
  clear hO hv2 hv1
  intro H v2 c2 hO hv2
  refine zaa zba ?_
  refine zpa hO (Γ.length+0) (zAa (zza rfl)) (v:=int m.ck) rfl ?_
  refine zxa (zDG (by omega) (by omega)) ?_
  refine zTc (size:=2) hO (by omega) (by omega) ?_
  clear hO
  intro H v1 c1 hO hv1
  refine zUe hO hv2 hv1 (by simp[txB,zsd,zBk]; omega) ?_
  clear hO hv2 hv1
  intro H v6 c6 hO hv6
  refine zaa zba ?_
  refine zaa (zVf hO (Γ.length+0) (zAa (zza rfl)) (by omega) (by show 0+4+32≤(mfC m cv).length; rw[zta ok.dl]; omega)) ?_
  refine zSc hO hv6 (ys:=m.dg) (.inr ⟨p1,0+4,3,by rw[ok.dl],.inr rfl,.inr ⟨Γ.length+0,_,zza rfl,by rw[ok.dl]; exact zUA ok.dl⟩⟩) (by simp[txB,zsd,zBk,ok.dl]; omega) ?_
  clear hO
  intro H v7 c7 hO hv7
  refine zaa zba ?_
  refine zpa hO (Γ.length+0) (zAa (zza rfl)) h36 ?_
  refine zxa hc.lenSl ?_
  replace hO:St H (Γ++zRa v7 c7):=St.mid hO
  refine ztl (fun k l' H'=>∃ (y:Nat) (v8:Value) (c8:List Value),y≤m.cks.length∧k=m.cks.length - y∧l'=[zwa,v8,cv,int m.cks.length,int y]∧St H' (Γ++zRa v8 c8)∧OwnB v8 (txB m.pr++leN 8 m.ver++leN 4 m.sz.toNat++leN 2 m.ck.toNat++m.dg++(m.cks.take y).flatten) c8) _ _ ?_ m.cks.length _ _ ⟨0,v7,c7,by omega,by omega,rfl,hO,by simpa using hv7⟩
  clear hO hv7
  rintro k l' H ⟨y,v8,c8,hy,rfl,rfl,hO,hv8⟩
  unfold zpk
  try simp only[zja,zka]
  refine zaa zMa ?_
  refine zoa (fun h=>?_) (fun h=>?_)
  ·have hy:y < m.cks.length:=by omega
   obtain⟨pc,cc,jc,wc,rfl,hj⟩:=hc.pos (by omega)
   refine zaa (zpb (by omega) (by omega)) ?_
   have hcy:=ok.cl _ (List.getElem_mem hy)
   refine zFa hO jc (zAa hj) (zSF ok.cl hy) (by simp[hcy]) (by omega) ?_
   rw[zJt]
   refine zhb hO ?_
   clear hO
   intro q9 H hO
   refine zva hO (_+0) (zza rfl) (by simp) (by simp[hcy]) (zze _) ?_
   clear hO
   intro H hO
   replace hO:=hO.set_r
   refine zaa (zVf hO (_+0) (zza rfl) (by omega) (by simp[hcy])) ?_
   refine zwd (ys:=m.cks[y]) hO hv8 (by
    have h1:=zVA (m.cks.take y) fun x hx=>ok.cl x (List.mem_of_mem_take hx)
    rw[List.length_take] at h1
    have:=ok.n
    simp only[List.length_append,txB,zsd,zBk,ok.dl,h1,hcy]; omega) hcy.symm (.inr rfl) ?_
   clear hO
   intro H v9 c9 hO hv9
   repeat (first|refine oi ?_|refine ow ?_|refine wy ?_|refine wn ?_|refine wt ?_|refine wf' ?_|refine cy ?_|refine cn ?_)
   refine⟨m.cks.length - (y+1),by omega,y+1,v9,c9,by omega,rfl,rfl,hO,?_⟩
   rw[zzA hy,← List.append_assoc]; exact hv9
  ·have e:y=m.cks.length:=by omega
   subst e
   rw[List.take_of_length_le (Nat.le_refl _)] at hv8
   exact hk H v8 c8 hO hv8
 ·rw[if_neg hr] at hk
  rw[decide_eq_false hr]
  refine zhd rfl ?_
  exact hk H _ [] (St.mid hO) hv6
end J
set_option maxRecDepth 100000
namespace J
open Go Go.Ab
variable{H:Heap}{Γ Γ0 Γ2 Δ G L:List (Nat × Blk)}{K:VH}{v w x cv dv:Value}{xs ys zs bs b key ms:List Int}{j p q o n k:Nat}{e:Int}{cs cs':List Value}{l:List UInt8}{m a:Mf}{cks:List (List Int)}
def kH:List CK:=List.replicate 32 (.i .u8)
theorem fH:flatK P 100 49=some kH:=by kernel_rfl
theorem zxI{s:List Int}(h:s.length=32):Fit kH (by8 s):=by
 have:=zCA s
 rw[h] at this; exact this
theorem eqH{a b:List Int}(c:Bool)(ha:a.length=32)(hb:b.length=32):(zna P .eql 49 c).f (agg (by8 a)) (agg (by8 b))=some (.bool (decide (a=b))):=by
 rw[zgA fH (by kernel_rfl) (by kernel_rfl) (zxI ha) (zxI hb),zTk]
theorem neH{a b:List Int}(c:Bool)(ha:a.length=32)(hb:b.length=32):(zna P .neq 49 c).f (agg (by8 a)) (agg (by8 b))=some (.bool (decide (a≠b))):=by
 rw[zhA fH (by kernel_rfl) (by kernel_rfl) (zxI ha) (zxI hb),zTk]
 simp
theorem zTF{a b:List UInt8}:(a == b)=decide (a=b):=by
 rw[Bool.eq_iff_iff]; simp
def zOy(xs:List Int)(e:Int):Int:=if e=0∧0 < xs.length then 52 else e
theorem zWA(hO:St H Γ)(hj:Γ[j]?=some (p,rdr v e))(hv:RdB Γ v xs)(hk:K (int (zOy xs e)) H):wCall P zWe [ptr p 0] H K:=by
 apply zGl; unfold zmj
 refine zaa zda ?_
 refine zaa zba ?_
 refine zpa hO j hj rfl ?_
 refine zaa zYa ?_
 unfold zOy at hk
 refine zoa (fun h=>?_) (fun h=>?_)
 ·refine zaa zda ?_
  refine zaa zba ?_
  refine zpa hO j hj rfl ?_
  refine zxa hv.lenSl ?_
  repeat (first|refine oi ?_|refine ow ?_|refine wy ?_|refine wn ?_|refine wt ?_|refine wf' ?_|refine cy ?_|refine cn ?_)
  refine zoa (fun h2=>?_) (fun h2=>?_)
  ·rw[if_pos ⟨h,by omega⟩] at hk
   exact hk
  ·rw[if_neg (by omega)] at hk
   refine zaa zda ?_
   refine zaa zba ?_
   refine zpa hO j hj rfl ?_
   exact hk
 ·repeat (first|refine oi ?_|refine ow ?_|refine wy ?_|refine wn ?_|refine wt ?_|refine wf' ?_|refine cy ?_|refine cn ?_)
  rw[if_neg (fun h'=>h h'.1)] at hk
  refine zpa hO j hj rfl ?_
  exact hk
end J
set_option maxRecDepth 100000
namespace J
open Go Go.Ab
variable{H:Heap}{Γ Γ0 Γ2 Δ G L:List (Nat × Blk)}{K:VH}{v w x cv dv:Value}{xs ys zs bs b key ms:List Int}{j p q o n k mx:Nat}{e:Int}{cs cs':List Value}{l:List UInt8}{m a:Mf}{cks:List (List Int)}
def ob(xs:List Int):List UInt8:=xs.map fun n=>UInt8.ofNat n.toNat
theorem zVI(l:List UInt8):ob (ub l)=l:=by
 unfold ob ub
 rw[List.map_map]
 conv=>rhs; rw[← List.map_id l]
 refine List.map_congr_left fun b _=>?_
 show UInt8.ofNat ((b.toNat:Int)).toNat=b
 rw[Int.toNat_natCast]
 exact UInt8.ofNat_toNat
def tN(xs:List Int)(e:Int):Nat:=leV (tkB xs e 2)
def tYb(xs:List Int)(e:Int):List Int:=tkB (tkR xs e 2) (tkE xs e 2) (tN xs e)
def tYr(xs:List Int)(e:Int):List Int:=tkR (tkR xs e 2) (tkE xs e 2) (tN xs e)
def tYe(xs:List Int)(e:Int):Int:=tkE (tkR xs e 2) (tkE xs e 2) (tN xs e)
def zXA(xs:List Int)(e:Int)(mx:Nat):Prop:=tkE xs e 2=0∧mx < tN xs e
instance (xs:List Int) (e:Int) (mx:Nat):Decidable (zXA xs e mx):=by unfold zXA; exact inferInstance
def tXb(xs:List Int)(e:Int)(mx:Nat):List Int:=if zXA xs e mx then [] else tYb xs e
def tXr(xs:List Int)(e:Int)(mx:Nat):List Int:=if zXA xs e mx then [] else tYr xs e
def tXe(xs:List Int)(e:Int)(mx:Nat):Int:=if zXA xs e mx then 52 else tYe xs e
theorem zYA(hb:By xs)(e:Int)(n:Nat):By (tkB xs e n):=RdB.bytes hb n e
theorem zqn(hb:By xs)(e:Int)(n:Nat):By (tkR xs e n):=by
 unfold tkR
 split
 ·exact fun x hx=>hb x (List.mem_of_mem_drop hx)
 ·intro x hx; cases hx
theorem zwp(xs:List Int)(e:Int)(n:Nat):(tkR xs e n).length≤xs.length:=by
 unfold tkR
 split
 ·rw[List.length_drop]; omega
 ·simp
theorem zkE{k:Nat}(hb:By xs)(e:Int):leV (tkB xs e k) < 256 ^ k:=by
 have h1:=zLw (tkB xs e k) (zYA hb e k)
 have h2:=zZr xs e k
 exact Nat.lt_of_lt_of_le h1 (Nat.pow_le_pow_right (by omega) h2)
theorem zWI(hb:By xs)(e:Int):tN xs e < 65536:=zkE hb e
theorem Inh.trans{v1 v2 v3:Value}{x1 x2 x3:List Int}(h1:Inh v1 x1 v2 x2)(h2:Inh v2 x2 v3 x3):Inh v1 x1 v3 x3:=fun Γ h=>h2 Γ (h1 Γ h)
set_option maxHeartbeats 2000000 in
theorem zly(hO:St H Γ)(hj:Γ[j]?=some (p,rdr v e))(hv:RdB Γ v xs)(hb:By xs)(hx:xs.length≤1000000)
  (hk:∀ H' v2,St H' (Γ.set j (p,rdr v2 (tXe xs e mx)))→Inh v xs v2 (tXr xs e mx)→K (str (ob (tXb xs e mx))) H'):wCall P zpe [ptr p 0,int mx] H K:=by
 apply zPk; unfold zoi
 have hn:=zWI hb e
 refine zhg (k:=2) (by omega) hO hj hv hb ?_
 clear hO
 intro H v1 hO i1
 have hj1:=zAA (y:=(p,rdr v1 (tkE xs e 2))) hj
 have hv1:=i1 _ (zIw (b':=rdr v1 (tkE xs e 2)) (p':=p) hv hj (RdB.shape hv))
 rw[show leV (tkB xs e 2)=tN xs e from rfl]
 refine zxa (zCG (k:=.u64) (by omega)) ?_
 refine zEa (fun l' H'=>l'=[ptr p 0,int (tN xs e),.bool (decide (zXA xs e mx))]∧H=H') ?_ ?_
 ·refine zaa zda ?_
  refine zaa zba ?_
  refine zpa hO j hj1 (v:=int (tkE xs e 2)) rfl ?_
  refine zaa zYa ?_
  refine zoa (fun h=>?_) (fun h=>?_)
  ·refine zaa zKc ?_
   refine zaa (zub h) ?_
   exact⟨by rw[decide_eq_decide.2 (show ((mx:Int) < (tN xs e:Int))↔zXA xs e mx from⟨fun h2=>⟨h,by omega⟩,fun h2=>by have:=h2.2; omega⟩)],rfl⟩
  ·refine zaa (zsb h) ?_
   exact⟨by rw[decide_eq_false (show ¬ zXA xs e mx from fun h2=>h h2.1)],rfl⟩
 rintro l' H' ⟨rfl,rfl⟩
 try simp only[zja,zka]
 unfold tXe tXr tXb at hk
 refine zoa (fun h=>?_) (fun h=>?_)
 ·simp only[if_pos h] at hk
  refine zCt hO hj1 ?_
  clear hO
  intro H hO
  rw[List.set_set,if_pos h.1] at hO
  refine zLl (xs:=[]) hO (zAA hj) .nil (by omega) ?_
  clear hO
  intro H v3 v4 hO i3 i4
  rw[List.set_set] at hO
  have e1:tkE [] 52 (tN xs e)=52:=by unfold tkE; rw[if_neg (by omega),if_neg (by omega)]
  have e2:tkR [] 52 (tN xs e)=[]:=by unfold tkR; rw[if_neg (by omega)]
  have e3:tkB [] 52 (tN xs e)=[]:=by unfold tkB; rw[if_neg (by omega)]
  rw[e1] at hO
  rw[e2] at i4
  rw[e3] at i3
  refine zxa (RdB.str hO (i3 _ .nil)) ?_
  exact hk H v4 hO (fun Γ _=>i4 Γ .nil)
 ·simp only[if_neg h] at hk
  refine zLl hO hj1 hv1 (by omega) ?_
  clear hO
  intro H v3 v4 hO i3 i4
  rw[List.set_set] at hO
  refine zxa (RdB.str hO (i3 _ (i1 _ (zIw (b':=rdr v4 (tYe xs e)) (p':=p) hv hj (RdB.shape hv))))) ?_
  exact hk H v4 hO (i1.trans i4)
def z32:List Int:=List.replicate 32 0
def hsh(xs:List Int)(e:Int):List Int:=if e=0∧32≤xs.length then xs.take 32 else z32
theorem zch:(hsh xs e).length=32:=by
 unfold hsh
 split
 ·rw[List.length_take]; omega
 ·rfl
theorem zlE(hb:By xs):By (hsh xs e):=by
 unfold hsh
 split
 ·exact fun x hx=>hb x (List.mem_of_mem_take hx)
 ·exact zIt
theorem zcH:zc P 49=by8 z32:=by kernel_rfl
theorem zpD:(by8 z32).take 0++(by8 (tkB xs e 32)++(by8 z32).drop (0+(tkB xs e 32).length))=by8 (hsh xs e):=by
 unfold hsh tkB
 split
 ·rename_i h
  rw[List.drop_of_length_le (by simp[z32]; omega)]
  simp
 ·show []++([]++(by8 z32).drop 0)=_
  simp
set_option maxHeartbeats 1000000 in
theorem zQt(hO:St H Γ)(hj:Γ[j]?=some (p,rdr v e))(hv:RdB Γ v xs)(hx:xs.length≤1000000)
  (hk:∀ H' v2,St H' (Γ.set j (p,rdr v2 (tkE xs e 32)))→Inh v xs v2 (tkR xs e 32)→K (agg (by8 (hsh xs e))) H'):wCall P zqe [ptr p 0] H K:=by
 apply zGn; unfold zFl
 have hjl:=(List.getElem?_eq_some_iff.1 hj).1
 rw[zcH]
 refine nw hO.z ?_
 clear hO
 intro p2 H hO
 refine nw hO ?_
 clear hO
 intro p3 H hO
 replace hO:St H (Γ++[(p2,⟨by8 z32,true⟩),(p3,⟨by8 z32,true⟩)]):=hO
 refine zaa (sar hO 1 rfl (by simp[z32]) (by omega)) ?_
 refine zBA (n:=32) hO (zAa hj) hv.app (by omega) hx ?_
 intro H1 v2 v' c' hO1 i2 o'
 rw[show rdN (Γ++[(p2,(⟨by8 z32,true⟩:Blk)),(p3,⟨by8 z32,true⟩)]) j p xs e 32 v2=Γ.set j (p,rdr v2 (tkE xs e 32))++[(p2,⟨by8 z32,true⟩),(p3,⟨by8 z32,true⟩)] from List.set_append_left _ _ hjl] at hO1
 refine⟨zFb hO (Γ.length+1) (zza rfl) hO1 ((Γ.set j (p,rdr v2 (tkE xs e 32))).length+1) (zAa (zza rfl)) (zxd _),?_⟩
 clear hO
 replace hk:=hk (v2:=v2)
 generalize Γ.set j (p,rdr v2 (tkE xs e 32))=Γ at *
 have htl:=zZr xs e 32
 refine zxv hO1 (i:=Γ.length+1) (zAa (zza rfl)) (ys:=tkB xs e 32) o'.rd.app' htl (by simp[z32]) ?_
 clear hO1
 intro H hO
 rw[List.set_append_left _ _ (by simp),Go.Ab.set_r,zpD] at hO
 replace hO:St H (Γ++[(p2,⟨by8 z32,true⟩),(p3,⟨by8 (hsh xs e),true⟩)]):=hO.left
 refine lw hO 1 rfl (by simp[zch]) (by omega) ?_
 refine sw hO 0 rfl (by simp[z32]) (by simp[zch]) (zze _) ?_
 clear hO
 intro H hO
 refine lw hO 0 rfl (by simp[zch]) (by omega) ?_
 exact hk H hO.left i2
end J
