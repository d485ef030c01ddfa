/- texts of the proof, one behind the other -/
import Derived.Lib.RuneCountTail
import Derived.Test.YtmnbcjhjkahajaaDoorUD
set_option linter.unusedVariables false
set_option linter.unusedSimpArgs false
set_option linter.unusedSectionVars false
set_option maxRecDepth 100000
namespace J
open Go Go.Ab
variable{H:Heap}{Γ Γ0 Γ2 Δ G L:List (Nat × Blk)}{K:VH}{v w x:Value}{xs ys zs bs b key ms:List Int}{j p q o n k:Nat}{e:Int}{cs cs':List Value}{l m:List UInt8}
abbrev str(l:List UInt8):Value:=.string ⟨l.toArray⟩
theorem zTh:zOj (str l) H=some (int l.length,H):=by
 show some (Value.int .i64 (Int.ofNat (zvd l)),H)=_
 rw[zta]; rfl
theorem zRu{k:IntKind}{i:Int}(h0:0≤i)(h1:i < l.length):zco (str l) (.int k i)=some (zbb .u8 (l.getD i.toNat 0).toNat):=by
 show (match leB 0 i with|true=>(atN l i.toNat).map zHe|false=>none)=_
 rw[zwb,decide_eq_true h0]
 simp only[zrg]
 rw[List.getD_eq_getElem?_getD,List.getElem?_eq_getElem (by omega)]
 rfl
theorem bHi{len n:Nat}(h:n≤len):zDb len (some (int (n:Int)))=some n:=by
 show (match leB 0 (n:Int) with|true=>(match Nat.ble (n:Int).toNat len with|true=>some (n:Int).toNat|false=>none)|false=>none)=_
 rw[zwb,decide_eq_true (by omega)]
 simp only[Int.toNat_natCast]
 rw[Nat.ble_eq_true_of_le h]
theorem zSu{n:Nat}(h:n≤l.length):zre (str l) none (some (int n)) none=some (str (l.take n)):=by
 show (match zDb (zvd l) (some (int n)) with|some h=>(match zxc h none with|some i=>some (Value.string ⟨(takeN (zkg l i) (h - i)).toArray⟩)|none=>none)|none=>none)=_
 rw[bHi (by rw[zta]; exact h)]
 simp[zxc,zIa,zQa]
theorem zXw{n:Nat}(h:n≤l.length):zre (str l) (some (int n)) none none=some (str (l.drop n)):=by
 show (match zDb (zvd l) none with|some h=>(match zxc h (some (int n)) with|some i=>some (Value.string ⟨(takeN (zkg l i) (h - i)).toArray⟩)|none=>none)|none=>none)=_
 rw[zta]
 simp only[zDb]
 rw[zyk h]
 simp only[zIa,zQa]
 rw[List.take_of_length_le (by simp)]
theorem zXy(t:TypeId)(c:Bool):(zla P .eql t c).f (str l) (str m)=some (.bool (l == m)):=rfl
theorem zYy(t:TypeId)(c:Bool):(zla P .neq t c).f (str l) (str m)=some (.bool (!(l == m))):=rfl
def cb(l:List UInt8)(i:Nat):Nat:=(l.getD i 0).toNat
theorem zig(l:List UInt8)(i:Nat):cb l i < 256:=(l.getD i 0).toNat_lt
def isC(c:Nat):Prop:=128≤c∧c≤191
instance (c:Nat):Decidable (isC c):=by unfold isC; exact inferInstance
def nP(l:List UInt8)(n0:Nat):Nat→Nat
 | 0=>n0
 | y+1=>64 * nP l n0 y+cb l (y+1) - 128
def zEs(l:List UInt8):Nat→Bool
 | 0=>true
 | y+1=>zEs l y && decide (isC (cb l (y+1)))
def zvp(l:List UInt8)(size n0 least:Nat):Option (Nat × Nat):=
 if l.length < size then none else if zEs l (size - 1)=true then
  (if nP l n0 (size - 1) < least∨nP l n0 (size - 1) > 1114111∨(55296≤nP l n0 (size - 1)∧nP l n0 (size - 1)≤57343) then none else some (nP l n0 (size - 1),size))
 else none
def o4(l:List UInt8):Option (Nat × Nat):=
 if cb l 0 < 128 then some (cb l 0,1)
 else if 194≤cb l 0∧cb l 0 < 224 then zvp l 2 (cb l 0 - 192) 128
 else if 224≤cb l 0∧cb l 0 < 240 then zvp l 3 (cb l 0 - 224) 2048
 else if 240≤cb l 0∧cb l 0 < 245 then zvp l 4 (cb l 0 - 240) 65536
 else none
def zqe(l:List UInt8):List Value:=match o4 l with
 | none=>[int (cb l 0),str (l.take 1),.bool true]
 | some r=>[int r.1,str (l.take r.2),.bool false]
theorem zEr:zc P 109=[int 0,str [],.bool false]:=by kernel_rfl
theorem zZy(n:Int)(s:ByteArray)(b:Bool):(zWa P 109).f [(0,int n),(1,.string s),(2,.bool b)]=some (agg [int n,.string s,.bool b]):=by kernel_rfl
theorem zpA{n0:Nat}(h:n0 < 32):∀ y,y≤3→nP l n0 y < 64 ^ y * 64:=by
 intro y hy
 match y,hy with
 | 0,_=>simp[nP]; omega
 | 1,_=>have:=zig l 1; simp[nP]; omega
 | 2,_=>have:=zig l 1; have:=zig l 2; simp[nP]; omega
 | 3,_=>have:=zig l 1; have:=zig l 2; have:=zig l 3; simp[nP]; omega
theorem zpB{n0:Nat}(y:Nat)(h:zEs l (y+1)=true):128≤64 * nP l n0 y+cb l (y+1):=by
 have:isC (cb l (y+1)):=by
  have h:(zEs l y && decide (isC (cb l (y+1))))=true:=h
  rw[Bool.and_eq_true] at h
  exact of_decide_eq_true h.2
 have:=this.1
 omega
set_option maxHeartbeats 2000000 in
theorem zYw{p2 p4 size n0 least:Nat}{Qx:LX}{Qr:LN}{bad:List Value}(hbl:bad.length=3)(hb1:bad.all oneCell=true)(hn0:n0 < 32)(hs1:2≤size)(hs:size≤4)(hl:size≤l.length)
  (hO:St H (Γ++[(p2,⟨[int 0,str [],.bool false],true⟩),(p4,⟨bad,true⟩)]))
  (hk1:zEs l (size - 1)=true→Qx 1 [str l,ptr p2 0,ptr p4 0,int size,int (nP l n0 (size - 1)),int least] H)
  (hk0:zEs l (size - 1)=false→∀ H' l',St H' (Γ++[(p2,⟨bad,true⟩),(p4,⟨bad,true⟩)])→nth l' 1=ptr p2 0→Qr l' H') :
  zQb P true 98 zIg 245 [str l,ptr p2 0,ptr p4 0,int size,int n0,int least,int 1] H Qx Qr:=by
 refine zek (fun k l' H'=>∃ (y:Nat),y+1≤size∧k=size - y∧l'=[str l,ptr p2 0,ptr p4 0,int size,int (nP l n0 y),int least,int ((y+1:Nat):Int)]∧H=H'∧zEs l y=true) _ _ ?_ size _ _ ⟨0,by omega,by omega,rfl,rfl,rfl⟩
 rintro k l' H' ⟨y,hy,rfl,rfl,rfl,hc⟩
 unfold zWj
 try simp only[zha,zia]
 refine zaa zSa ?_
 refine zja (fun h=>?_) (fun h=>?_)
 ·have hy:y+1 < size:=by omega
  have hcb:=zig l (y+1)
  have hnp:=zpA (l:=l) hn0 y (by omega)
  have hpw:64 ^ y≤64 ^ 3:=Nat.pow_le_pow_right (by omega) (by omega)
  refine zaa (zRu (by omega) (by omega)) ?_
  rw[Int.toNat_natCast]
  refine zra (zpz (k:=.u8) (by show cb l (y+1)≤_; omega)) ?_
  rw[show (l.getD (y+1) 0).toNat=cb l (y+1) from rfl]
  by_cases h2:isC (cb l (y+1))
  ·have hc2:zEs l (y+1)=true:=by show (zEs l y && decide (isC (cb l (y+1))))=true; rw[hc,decide_eq_true h2]; rfl
   have hge:=zpB (n0:=n0) y hc2
   obtain⟨g1,g2⟩:=h2
   refine zwa (fun l' H'=>l'=[str l,ptr p2 0,ptr p4 0,int size,int (nP l n0 y),int least,int ((y+1:Nat):Int),int (cb l (y+1)),.bool false]∧H=H') ?_ ?_
   ·repeat (first|refine oi ?_|refine ow ?_|refine wy ?_|refine wn ?_|refine wt ?_|refine wf' ?_|refine cy ?_|refine cn ?_)
    exact⟨by first|(rw[decide_eq_false (by omega)]; done)|(rw[decide_eq_false (by omega)]; rfl),(by first|rfl|trivial)⟩
   rintro l' H' ⟨rfl,rfl⟩
   try simp only[zha,zia]
   refine zgg rfl ?_
   refine zaa (zoi (by omega) (by omega)) ?_
   repeat (first|refine oi ?_|refine ow ?_|refine wy ?_|refine wn ?_|refine wt ?_|refine wf' ?_|refine cy ?_|refine cn ?_)
   refine⟨size - (y+1),by omega,y+1,by omega,rfl,?_,(by first|rfl|trivial),hc2⟩
   rw[show nP l n0 (y+1)=64 * nP l n0 y+cb l (y+1) - 128 from rfl]
   have e1:(64 * (nP l n0 y:Int)+(cb l (y+1):Int) - 128)=((64 * nP l n0 y+cb l (y+1) - 128:Nat):Int):=by omega
   rw[e1]; rfl
  ·have hcf:zEs l (size - 1)=false:=by
    have:∀ z,y+1≤z→zEs l z=false:=by
     intro z hz
     induction z with
     | zero=>omega
     | succ z ih=>
      show (zEs l z && decide (isC (cb l (z+1))))=false
      by_cases hz2:y+1≤z
      ·rw[ih hz2]; rfl
      ·have:z=y:=by omega
       subst this
       rw[decide_eq_false h2,Bool.and_false]
    exact this _ (by omega)
   refine zwa (fun l' H'=>l'=[str l,ptr p2 0,ptr p4 0,int size,int (nP l n0 y),int least,int ((y+1:Nat):Int),int (cb l (y+1)),.bool true]∧H=H') ?_ ?_
   ·refine zaa zSa ?_
    refine zja (fun h3=>?_) (fun h3=>?_)
    ·repeat (first|refine oi ?_|refine ow ?_|refine wy ?_|refine wn ?_|refine wt ?_|refine wf' ?_|refine cy ?_|refine cn ?_)
     exact⟨(by first|rfl|trivial),(by first|rfl|trivial)⟩
    ·repeat (first|refine oi ?_|refine ow ?_|refine wy ?_|refine wn ?_|refine wt ?_|refine wf' ?_|refine cy ?_|refine cn ?_)
     refine⟨?_,(by first|rfl|trivial)⟩
     unfold isC at h2
     rw[decide_eq_true (show (191:Int) < (cb l (y+1):Int) by omega)]
   rintro l' H' ⟨rfl,rfl⟩
   try simp only[zha,zia]
   refine zaf rfl ?_
   refine lw hO 1 rfl hbl (by omega) ?_
   refine sw hO 0 rfl rfl hbl hb1 ?_
   intro H2 hO2
   exact hk0 hcf _ _ hO2 rfl
 ·have e:y=size - 1:=by omega
  subst e
  exact hk1 hc
end J
set_option maxRecDepth 100000
namespace J
open Go Go.Ab
variable{H:Heap}{Γ Γ0 Γ2 Δ G L:List (Nat × Blk)}{K:VH}{v w x:Value}{xs ys zs bs b key ms:List Int}{j p q o n k:Nat}{e:Int}{cs cs':List Value}{l m:List UInt8}
theorem zJl(l:List UInt8):(zqe l).all oneCell=true∧(zqe l).length=3:=by
 unfold zqe
 split <;> exact⟨rfl,rfl⟩
theorem zee{size n0 least:Nat}{r:Nat × Nat}(h:zvp l size n0 least=some r):size≤l.length∧r.2=size:=by
 unfold zvp at h
 split at h
 ·cases h
 ·split at h
  ·split at h
   ·cases h
   ·cases h; exact⟨by omega,rfl⟩
  ·cases h
theorem zTu{r:Nat × Nat}(h:o4 l=some r)(hl:l≠[]):1≤r.2∧r.2≤4∧r.2≤l.length:=by
 have hl:0 < l.length:=List.length_pos_iff.2 hl
 unfold o4 at h
 split at h
 ·cases h; exact⟨by simp,by simp,hl⟩
 split at h
 ·obtain⟨h1,h2⟩:=zee h; omega
 split at h
 ·obtain⟨h1,h2⟩:=zee h; omega
 split at h
 ·obtain⟨h1,h2⟩:=zee h; omega
 ·cases h
set_option maxHeartbeats 4000000 in
theorem zZw(hl:l≠[])(hO:St H Γ)(hk:∀ H',St H' Γ→K (agg (zqe l)) H'):wCall P zKf [str l] H K:=by
 apply zZo; unfold zYo
 have hl1:0 < l.length:=List.length_pos_iff.2 hl
 have ha:=zig l 0
 rw[zEr]
 refine nw hO.z ?_
 clear hO
 intro p2 H hO
 refine zaa (zRu (by omega) (by omega)) ?_
 rw[show (l.getD (0:Int).toNat 0).toNat=cb l 0 from rfl]
 refine zra (zpz (k:=.u8) (by omega)) ?_
 refine zaa (zSu (n:=1) (by omega)) ?_
 refine zaa (zZy _ _ _) ?_
 refine nw hO ?_
 clear hO
 intro p4 H hO
 refine sw hO 1 rfl rfl rfl rfl ?_
 clear hO
 intro H hO
 replace hO:St H (Γ++[(p2,⟨[int 0,str [],.bool false],true⟩),(p4,⟨[int (cb l 0),str (l.take 1),.bool true],true⟩)]):=hO
 by_cases h0:cb l 0 < 128
 ·repeat (first|refine oi ?_|refine ow ?_|refine wy ?_|refine wn ?_|refine wt ?_|refine wf' ?_|refine cy ?_|refine cn ?_)
  refine zaa (zSu (n:=1) (by omega)) ?_
  refine zaa (zZy _ _ _) ?_
  refine sw hO 0 rfl rfl rfl rfl ?_
  clear hO
  intro H hO
  refine lw hO 0 rfl rfl (by omega) ?_
  have:=hk _ hO.left
  unfold zqe at this
  rw[show o4 l=some (cb l 0,1) from if_pos h0] at this
  exact this
 have hbad:o4 l=none→∀ H (Δ:List (Nat × Blk)),St H (Γ++Δ)→K (agg [int (cb l 0),str (l.take 1),.bool true]) H:=fun h H Δ hO=>by
  have:=hk _ hO.left
  unfold zqe at this
  rw[h] at this
  exact this
 refine zaa zSa ?_
 refine zQj (by omega) ?_
 refine zwa (fun l' H'=>∃ (size n0 least:Nat),l'=[str l,ptr p2 0,ptr p4 0,int size,int n0,int least]∧H=H'∧n0 < 32∧2≤size∧size≤4∧o4 l=zvp l size n0 least) ?_ ?_
 ·by_cases c2:194≤cb l 0∧cb l 0 < 224
  ·refine zBc ?_
   repeat (first|refine oi ?_|refine ow ?_|refine wy ?_|refine wn ?_|refine wt ?_|refine wf' ?_|refine cy ?_|refine cn ?_)
   try simp only[zha,zia]
   repeat (first|refine oi ?_|refine ow ?_|refine wy ?_|refine wn ?_|refine wt ?_|refine wf' ?_|refine cy ?_|refine cn ?_)
   refine⟨2,cb l 0 - 192,128,by rw[show ((cb l 0 - 192:Nat):Int)=(cb l 0:Int) - 192 by omega]; rfl,(by first|rfl|trivial),by omega,by omega,by omega,?_⟩
   unfold o4
   rw[if_neg h0,if_pos c2]
  by_cases c3:224≤cb l 0∧cb l 0 < 240
  ·refine zwa (fun l' H'=>l'=[str l,ptr p2 0,int (cb l 0),ptr p4 0,int 0,int 0,int 0,.bool false]∧H=H') ?_ ?_
   ·repeat (first|refine oi ?_|refine ow ?_|refine wy ?_|refine wn ?_|refine wt ?_|refine wf' ?_|refine cy ?_|refine cn ?_)
    exact⟨by rw[decide_eq_false (by omega)],(by first|rfl|trivial)⟩
   rintro l' H' ⟨rfl,rfl⟩
   try simp only[zha,zia]
   refine zgg rfl ?_
   refine zBc ?_
   repeat (first|refine oi ?_|refine ow ?_|refine wy ?_|refine wn ?_|refine wt ?_|refine wf' ?_|refine cy ?_|refine cn ?_)
   try simp only[zha,zia]
   repeat (first|refine oi ?_|refine ow ?_|refine wy ?_|refine wn ?_|refine wt ?_|refine wf' ?_|refine cy ?_|refine cn ?_)
   refine⟨3,cb l 0 - 224,2048,by rw[show ((cb l 0 - 224:Nat):Int)=(cb l 0:Int) - 224 by omega]; rfl,(by first|rfl|trivial),by omega,by omega,by omega,?_⟩
   unfold o4
   rw[if_neg h0,if_neg c2,if_pos c3]
  refine zwa (fun l' H'=>l'=[str l,ptr p2 0,int (cb l 0),ptr p4 0,int 0,int 0,int 0,.bool false]∧H=H') ?_ ?_
  ·refine zaa zkj ?_
   refine zja (fun h1=>?_) (fun h1=>?_)
   ·repeat (first|refine oi ?_|refine ow ?_|refine wy ?_|refine wn ?_|refine wt ?_|refine wf' ?_|refine cy ?_|refine cn ?_)
    exact⟨by rw[decide_eq_false (by omega)],(by first|rfl|trivial)⟩
   ·repeat (first|refine oi ?_|refine ow ?_|refine wy ?_|refine wn ?_|refine wt ?_|refine wf' ?_|refine cy ?_|refine cn ?_)
    exact⟨(by first|rfl|trivial),(by first|rfl|trivial)⟩
  rintro l' H' ⟨rfl,rfl⟩
  try simp only[zha,zia]
  refine zgg rfl ?_
  refine zwa (fun l' H'=>l'=[str l,ptr p2 0,int (cb l 0),ptr p4 0,int 0,int 0,int 0,.bool false]∧H=H') ?_ ?_
  ·refine zaa zkj ?_
   refine zja (fun h1=>?_) (fun h1=>?_)
   ·repeat (first|refine oi ?_|refine ow ?_|refine wy ?_|refine wn ?_|refine wt ?_|refine wf' ?_|refine cy ?_|refine cn ?_)
    exact⟨by rw[decide_eq_false (by omega)],(by first|rfl|trivial)⟩
   ·repeat (first|refine oi ?_|refine ow ?_|refine wy ?_|refine wn ?_|refine wt ?_|refine wf' ?_|refine cy ?_|refine cn ?_)
    exact⟨(by first|rfl|trivial),(by first|rfl|trivial)⟩
  rintro l' H' ⟨rfl,rfl⟩
  try simp only[zha,zia]
  refine zgg rfl ?_
  by_cases c4:240≤cb l 0∧cb l 0 < 245
  ·refine zBc ?_
   repeat (first|refine oi ?_|refine ow ?_|refine wy ?_|refine wn ?_|refine wt ?_|refine wf' ?_|refine cy ?_|refine cn ?_)
   try simp only[zha,zia]
   repeat (first|refine oi ?_|refine ow ?_|refine wy ?_|refine wn ?_|refine wt ?_|refine wf' ?_|refine cy ?_|refine cn ?_)
   refine⟨4,cb l 0 - 240,65536,by rw[show ((cb l 0 - 240:Nat):Int)=(cb l 0:Int) - 240 by omega]; rfl,(by first|rfl|trivial),by omega,by omega,by omega,?_⟩
   unfold o4
   rw[if_neg h0,if_neg c2,if_neg c3,if_pos c4]
  have hn:o4 l=none:=by unfold o4; rw[if_neg h0,if_neg c2,if_neg c3,if_neg c4]
  refine zwa (fun l' H'=>l'=[str l,ptr p2 0,int (cb l 0),ptr p4 0,int 0,int 0,int 0,.bool false]∧H=H') ?_ ?_
  ·refine zaa zkj ?_
   refine zja (fun h1=>?_) (fun h1=>?_)
   ·repeat (first|refine oi ?_|refine ow ?_|refine wy ?_|refine wn ?_|refine wt ?_|refine wf' ?_|refine cy ?_|refine cn ?_)
    exact⟨by rw[decide_eq_false (by omega)],(by first|rfl|trivial)⟩
   ·repeat (first|refine oi ?_|refine ow ?_|refine wy ?_|refine wn ?_|refine wt ?_|refine wf' ?_|refine cy ?_|refine cn ?_)
    exact⟨(by first|rfl|trivial),(by first|rfl|trivial)⟩
  rintro l' H' ⟨rfl,rfl⟩
  try simp only[zha,zia]
  refine zgg rfl ?_
  refine lw hO 1 rfl rfl (by omega) ?_
  refine sw hO 0 rfl rfl rfl rfl ?_
  clear hO
  intro H hO
  refine lw hO 0 rfl rfl (by omega) ?_
  exact hbad hn _ _ hO
 rintro l' H' ⟨size,n0,least,rfl,rfl,g1,g2,g3,g4⟩
 try simp only[zha,zia]
 refine zra zTh ?_
 refine zaa zSa ?_
 refine zja (fun h=>?_) (fun h=>?_)
 ·refine lw hO 1 rfl rfl (by omega) ?_
  refine sw hO 0 rfl rfl rfl rfl ?_
  clear hO
  intro H hO
  refine lw hO 0 rfl rfl (by omega) ?_
  refine hbad ?_ _ _ hO
  rw[g4]; unfold zvp
  rw[if_pos (by omega)]
 refine zYw rfl rfl g1 g2 g3 (by omega) hO ?_ ?_
 ·intro hc
  refine zhb rfl ?_
  have hlt:=zpA (l:=l) g1 (size - 1) (by omega)
  have hs:o4 l=if nP l n0 (size - 1) < least∨nP l n0 (size - 1) > 1114111∨(55296≤nP l n0 (size - 1)∧nP l n0 (size - 1)≤57343) then none else some (nP l n0 (size - 1),size):=by
   rw[g4]; unfold zvp
   rw[if_neg (by omega),if_pos hc]
  generalize nP l n0 (size - 1)=N at *
  try simp only[zha,zia]
  refine zwa (fun l' H'=>l'=[str l,ptr p2 0,ptr p4 0,int size,int N,.bool (decide (N < least∨N > 1114111∨(55296≤N∧N≤57343)))]∧H=H') ?_ ?_
  ·by_cases z1:N < least
   ·repeat (first|refine oi ?_|refine ow ?_|refine wy ?_|refine wn ?_|refine wt ?_|refine wf' ?_|refine cy ?_|refine cn ?_)
    exact⟨by rw[decide_eq_true (show N < least∨N > 1114111∨(55296≤N∧N≤57343) from .inl z1)],(by first|rfl|trivial)⟩
   by_cases z2:N > 1114111
   ·repeat (first|refine oi ?_|refine ow ?_|refine wy ?_|refine wn ?_|refine wt ?_|refine wf' ?_|refine cy ?_|refine cn ?_)
    exact⟨by rw[decide_eq_true (show N < least∨N > 1114111∨(55296≤N∧N≤57343) from .inr (.inl z2))],(by first|rfl|trivial)⟩
   by_cases z3:55296≤N
   ·repeat (first|refine oi ?_|refine ow ?_|refine wy ?_|refine wn ?_|refine wt ?_|refine wf' ?_|refine cy ?_|refine cn ?_)
    exact⟨by rw[decide_eq_decide.2 (show ((N:Int)≤57343)↔(N < least∨N > 1114111∨(55296≤N∧N≤57343)) by omega)],(by first|rfl|trivial)⟩
   ·repeat (first|refine oi ?_|refine ow ?_|refine wy ?_|refine wn ?_|refine wt ?_|refine wf' ?_|refine cy ?_|refine cn ?_)
    exact⟨by rw[decide_eq_false (show ¬ (N < least∨N > 1114111∨(55296≤N∧N≤57343)) by omega)],(by first|rfl|trivial)⟩
  rintro l' H' ⟨rfl,rfl⟩
  try simp only[zha,zia]
  refine zja (fun z=>?_) (fun z=>?_)
  ·refine lw hO 1 rfl rfl (by omega) ?_
   refine sw hO 0 rfl rfl rfl rfl ?_
   clear hO
   intro H hO
   refine lw hO 0 rfl rfl (by omega) ?_
   exact hbad (by rw[hs,if_pos z]) _ _ hO
  ·refine zaa (zSu (by omega)) ?_
   refine zaa (zZy _ _ _) ?_
   refine sw hO 0 rfl rfl rfl rfl ?_
   clear hO
   intro H hO
   refine lw hO 0 rfl rfl (by omega) ?_
   have:=hk _ hO.left
   unfold zqe at this
   rw[hs,if_neg z] at this
   exact this
 ·intro hc H l' hO hp
  rw[hp]
  refine lw hO 0 rfl rfl (by omega) ?_
  refine hbad ?_ _ _ hO
  rw[g4]; unfold zvp
  rw[if_neg (by omega),if_neg (by rw[hc]; simp)]
end J
set_option maxRecDepth 100000
namespace J
open Go Go.Ab
variable{H:Heap}{Γ Γ0 Γ2 Δ G L:List (Nat × Blk)}{K:VH}{v w x:Value}{xs ys zs bs b key ms:List Int}{j p q o n k:Nat}{e:Int}{cs cs':List Value}{l m:List UInt8}{ds:List (List UInt8)}
def wid(l:List UInt8):Nat:=match o4 l with
 | none=>1
 | some r=>r.2
def zfp:Nat→List UInt8→List (List UInt8)
 | 0,_=>[]
 | n+1,l=>if l=[] then [] else l::zfp n (l.drop (wid l))
def zYn(l:List UInt8):List (List UInt8):=zfp l.length l
theorem zSn(hl:l≠[]):1≤wid l∧wid l≤l.length:=by
 unfold wid
 split
 ·exact⟨Nat.le_refl _,List.length_pos_iff.2 hl⟩
 ·rename_i r h
  have:=zTu h hl
  exact⟨this.1,this.2.2⟩
theorem zTn:∀ (n:Nat) (l:List UInt8),(zfp n l).length≤n
 | 0,_=>Nat.zero_le _
 | n+1,l=>by
  unfold zfp
  split
  ·exact Nat.zero_le _
  ·have:=zTn n (l.drop (wid l))
   simpa using this
theorem zaz(l:List UInt8):(zqe l)[1]?=some (str (l.take (wid l))):=by
 unfold zqe wid
 cases o4 l <;> rfl
theorem zqA(a b c:Value)(H:Heap):(zea P 106 1).f [(0,agg [a,b,c])] H=some (sl H.next 0 1 7,H.push [a,b,c]):=by kernel_rfl
theorem zbz(H:Heap):(zea P 106 0).f [] H=some (sl H.next 0 0 7,H.push []):=by kernel_rfl
theorem three{l:List Value}(h:l.length=3):∃ a b c,l=[a,b,c]:=by
 match l,h with
 | [a,b,c],_=>exact⟨a,b,c,rfl⟩
abbrev rnC(ds:List (List UInt8)):List Value:=ds.flatMap zqe
set_option maxHeartbeats 2000000 in
theorem zOm(hl:l.length≤1000000)(hO:St H Γ)(hk:∀ H' v,St H' (Γ++zGb v (rnC (zYn l)))→Own 3 v (zYn l).length (rnC (zYn l))→K v H'):wCall P zWc [str l] H K:=by
 apply zfm; unfold zsl
 refine zxa hO (zbz _) ?_
 clear hO
 intro q H hO
 refine zIi (fun k l' H'=>∃ (r:List UInt8) (ds:List (List UInt8)) (v:Value),r.length≤k∧ds.length+k≤l.length∧zYn l=ds++zfp k r∧l'=[str r,zva,v]∧St H' (Γ++zGb v (rnC ds))∧Own 3 v ds.length (rnC ds)) _ _ ?_ l.length _ _ ⟨l,[],sl q 0 0 7,Nat.le_refl _,by simp,rfl,rfl,hO,.inr ⟨q,.inr rfl,rfl⟩⟩
 clear hO
 rintro k l' H ⟨r,ds,v,hr,hd,he,rfl,hO,hv⟩
 unfold zxh
 try simp only[zha,zia]
 refine zaa (show _=some (.bool (!(r == []))) from rfl) ?_
 by_cases h0:r=[]
 ·subst h0
  refine zgg rfl ?_
  refine zhb rfl ?_
  try simp only[zha,zia]
  have e0:zfp k []=[]:=by cases k <;> rfl
  rw[e0,List.append_nil] at he
  rw[he] at hk
  exact hk H v hO hv
 ·have hb:(r == [])=false:=by cases r <;> first|rfl|exact absurd rfl h0
  rw[hb]
  refine zaf rfl ?_
  refine zZw h0 hO ?_
  clear hO
  intro H hO
  rw[zEr]
  obtain⟨g1,g2⟩:=zJl r
  refine zyb hO ?_
  clear hO
  intro p4 H hO
  refine zLa hO (_+0) (zEa rfl) rfl g2 g1 ?_
  clear hO
  intro H hO
  replace hO:=hO.set_r
  replace hO:St H ((Γ++zGb v (rnC ds))++[(p4,⟨zqe r,true⟩)]):=hO
  refine zlb hO (_+0) (zEa rfl) g2 (by omega) ?_
  obtain⟨ca,cb,cc,hc⟩:=three g2
  refine zxa hO (by rw[hc]; exact zqA _ _ _ _) ?_
  rw[← hc]
  clear hO
  intro q2 H hO
  replace hO:St H (((Γ++[(p4,⟨zqe r,true⟩)])++zGb v (rnC ds))++[(q2,⟨zqe r,true⟩)]):=hO.perm (by classical exact List.perm_iff_count.2 fun _=>by simp only[List.count_append,List.count_nil,List.set_cons_zero]; omega)
  refine zzl hO hv g2 (by omega) g1 (by omega) (by omega) ?_
  clear hO
  intro v2 H hO hv2
  obtain⟨w1,w2⟩:=zSn h0
  refine zaa zba ?_
  refine zpa hO (Γ.length+0) (zZa (zEa rfl)) (v:=str (r.take (wid r))) (zaz r) ?_
  refine zra zTh ?_
  rw[List.length_take,Nat.min_eq_left w2]
  refine zaa (zXw w2) ?_
  cases k with
  | zero=>omega
  | succ k=>
   refine⟨k,Nat.lt_succ_self _,r.drop (wid r),ds++[r],v2,?_,?_,?_,rfl,?_,?_⟩
   ·rw[List.length_drop]; omega
   ·rw[List.length_append]; simp; omega
   ·rw[he]
    show ds++(if r=[] then [] else r::zfp k (r.drop (wid r)))=_
    rw[if_neg h0]; simp
   ·replace hO:St H (Γ++zGb v2 (rnC ds++zqe r)):=St.mid hO
    simpa using hO
   ·simpa using hv2
def okR(l:List UInt8)(first:Bool):Bool:=match o4 l with
 | none=>false
 | some r=>Go.Lib.isLetterU r.1 || (!first && (Go.Lib.isDigitU r.1 || (l.take r.2 == [45] || (l.take r.2 == [95] || l.take r.2 == [46]))))
def zXA(l:List UInt8):Bool:=match o4 l with
 | none=>false
 | some r=>Go.Lib.isLetterU r.1
def zzj:Nat→List (List UInt8)→Bool
 | _,[]=>true
 | i,r::ds=>okR r (i == 0) && zzj (i+1) ds
def nm4(l:List UInt8):Int:=if (zYn l).length=0∨(zYn l).length > 24 then 41 else if zzj 0 (zYn l)=true then 0 else 41
theorem zrA{n:Int}(h0:0≤n)(h1:n < 2147483648):zmb .i32 (int n) H=some (.int .i32 n,H):=by
 show some (Value.int .i32 (zBb .i32 n),H)=_
 have:zBb .i32 n=n:=by
  show zId 2147483648 4294967296 n=n
  unfold zId
  obtain⟨m,rfl⟩:∃ m:Nat,n=m:=⟨n.toNat,by omega⟩
  have hb:Nat.blt m 2147483648=true:=by rw[blt_eq,decide_eq_true (by omega)]
  show (match Nat.blt m 2147483648 with|true=>Int.ofNat m|false=>_)=_
  rw[hb]; rfl
 rw[this]
theorem zFs{i:Nat}{ds:List (List UInt8)}:∀ (y:Nat) (h:y < ds.length),zzj (i+y) (ds.drop y)=(okR ds[y] (i+y == 0) && zzj (i+(y+1)) (ds.drop (y+1))):=by
 intro y h
 rw[List.drop_eq_getElem_cons h]
 rfl
end J
set_option maxRecDepth 100000
namespace J
open Go Go.Ab
variable{H:Heap}{Γ Γ0 Γ2 Δ G L:List (Nat × Blk)}{K:VH}{v w x:Value}{xs ys zs bs b key ms:List Int}{j p q o n k:Nat}{e:Int}{cs cs':List Value}{l m:List UInt8}{ds:List (List UInt8)}
theorem zDq{size n0 least:Nat}{r:Nat × Nat}(h:zvp l size n0 least=some r):r.1≤1114111:=by
 unfold zvp at h
 split at h
 ·cases h
 ·split at h
  ·split at h
   ·cases h
   ·cases h; simp only; omega
  ·cases h
theorem zsA{r:Nat × Nat}(h:o4 l=some r):r.1≤1114111:=by
 have:=zig l 0
 unfold o4 at h
 split at h
 ·cases h; simp only; omega
 split at h
 ·exact zDq h
 split at h
 ·exact zDq h
 split at h
 ·exact zDq h
 ·cases h
structure Rn3 (l:List UInt8) (n:Nat) (bt:List UInt8) (br:Bool):Prop where
 cells:zqe l=[int n,str bt,.bool br]
 lt:n≤1114111
 let':zXA l=(!br && Go.Lib.isLetterU n)
 ok:∀ f,okR l f=(!br && (Go.Lib.isLetterU n || (!f && (Go.Lib.isDigitU n || (bt == [45] || (bt == [95] || bt == [46]))))))
theorem rn3(l:List UInt8):∃ n bt br,Rn3 l n bt br:=by
 cases h:o4 l with
 | none=>exact⟨cb l 0,l.take 1,true,by unfold zqe; rw[h],by have:=zig l 0; omega,by unfold zXA; rw[h]; rfl,fun f=>by unfold okR; rw[h]; rfl⟩
 | some r=>exact⟨r.1,l.take r.2,false,by unfold zqe; rw[h],zsA h,by unfold zXA; rw[h]; rfl,fun f=>by unfold okR; rw[h]; rfl⟩
set_option maxHeartbeats 4000000 in
theorem zUu{Qx:LX}{Qr:LN}(hl:ds.length≤1000000)(hv:Own 3 v ds.length (rnC ds))(hO:St H (Γ++zGb v (rnC ds)))
  (hk1:zzj 0 ds=true→∀ H',St H' Γ→Qx 0 [int 0] H') (hk0:zzj 0 ds=false→∀ H',St H' Γ→Qr [int 41] H') :
  zQb P true 64 zNf 4 [int 0,v,int ds.length,int 0] H Qx Qr:=by
 refine zxj (fun k l' H'=>∃ (y:Nat),y≤ds.length∧k=ds.length - y∧l'=[int 0,v,int ds.length,int y]∧St H' (Γ++zGb v (rnC ds))∧zzj 0 ds=zzj y (ds.drop y)) _ _ ?_ ds.length _ _ ⟨0,by omega,by omega,rfl,hO,rfl⟩
 clear hO
 rintro k l' H ⟨y,hy,rfl,rfl,hO,hok⟩
 unfold zHi
 try simp only[zha,zia]
 refine zaa zSa ?_
 refine zja (fun h=>?_) (fun h=>?_)
 ·have hy:y < ds.length:=by omega
  obtain⟨pv,cv,rfl,hΓ⟩:∃ pv cv,v=sl pv 0 ds.length cv∧zGb v (rnC ds)=[(pv,⟨rnC ds,true⟩)]:=by
   rcases hv with⟨_,h0,_⟩|⟨pv,rfl|rfl,_⟩
   ·omega
   ·exact⟨pv,_,rfl,rfl⟩
   ·exact⟨pv,_,rfl,rfl⟩
  rw[hΓ] at hO
  have hdrop:=zFs (i:=0) (ds:=ds) y hy
  rw[Nat.zero_add,Nat.zero_add] at hdrop
  rw[hdrop] at hok
  obtain⟨n,bt,br,r3⟩:=rn3 ds[y]
  have hcells:=zsq (f:=zqe) (n:=3) (l:=ds) (i:=y) (o:=0) (m:=3) (fun x _=>(zJl x).2) hy (by omega)
  rw[r3.cells] at hcells
  refine zaa (zcc (by omega) (by omega)) ?_
  refine zCa hO (Γ.length+0) (zEa rfl) (show _=[int n,str bt,.bool br] from by rw[show 0+(y:Int).toNat * 3=y * 3+0 by omega]; exact hcells) rfl (by omega) ?_
  rw[zEr]
  refine nw hO ?_
  clear hO
  intro p5 H hO
  refine sw hO 1 rfl rfl rfl rfl ?_
  clear hO
  intro H hO
  replace hO:St H (Γ++[(pv,⟨rnC ds,true⟩),(p5,⟨[int n,str bt,.bool br],true⟩)]):=hO
  repeat (first|refine oi ?_|refine ow ?_|refine wy ?_|refine wn ?_|refine wt ?_|refine wf' ?_|refine cy ?_|refine cn ?_|refine ld hO 0 rfl rfl ?_|refine ld hO 1 rfl rfl ?_|refine ld hO 2 rfl rfl ?_|refine ld hO 3 rfl rfl ?_|refine ld hO 4 rfl rfl ?_|refine ld hO 5 rfl rfl ?_)
  have hn:=r3.lt
  refine zra (zrA (by omega) (by omega)) ?_
  refine zwa (fun l' H'=>l'=[int 0,int y,ptr p5 0,.int .i32 n,.bool (zXA ds[y]),sl pv 0 ds.length cv,int ds.length,int y]∧H=H') ?_ ?_
  ·repeat (first|refine oi ?_|refine ow ?_|refine wy ?_|refine wn ?_|refine wt ?_|refine wf' ?_|refine cy ?_|refine cn ?_|refine ld hO 0 rfl rfl ?_|refine ld hO 1 rfl rfl ?_|refine ld hO 2 rfl rfl ?_|refine ld hO 3 rfl rfl ?_|refine ld hO 4 rfl rfl ?_|refine ld hO 5 rfl rfl ?_)
   rw[r3.let']
   cases br with
   | true=>
    refine zgg rfl ?_
    repeat (first|refine oi ?_|refine ow ?_|refine wy ?_|refine wn ?_|refine wt ?_|refine wf' ?_|refine cy ?_|refine cn ?_)
    exact⟨(by first|rfl|trivial),(by first|rfl|trivial)⟩
   | false=>
    refine zaf rfl ?_
    refine zoq (by omega) (by omega) ?_
    repeat (first|refine oi ?_|refine ow ?_|refine wy ?_|refine wn ?_|refine wt ?_|refine wf' ?_|refine cy ?_|refine cn ?_)
    exact⟨(by first|rfl|trivial),(by first|rfl|trivial)⟩
  rintro l' H' ⟨rfl,rfl⟩
  try simp only[zha,zia]
  refine zwa (fun l' H'=>l'=[int 0,.bool (okR ds[y] (y == 0)),sl pv 0 ds.length cv,int ds.length,int y]∧H=H') ?_ ?_
  ·rw[r3.let',r3.ok]
   refine zaa zPc ?_
   refine zja (fun h0=>?_) (fun h0=>?_)
   ·have e0:(y == 0)=false:=by simp; omega
    rw[e0]
    repeat (first|refine oi ?_|refine ow ?_|refine wy ?_|refine wn ?_|refine wt ?_|refine wf' ?_|refine cy ?_|refine cn ?_|refine ld hO 0 rfl rfl ?_|refine ld hO 1 rfl rfl ?_|refine ld hO 2 rfl rfl ?_|refine ld hO 3 rfl rfl ?_|refine ld hO 4 rfl rfl ?_|refine ld hO 5 rfl rfl ?_)
    cases br with
    | true=>
     refine zgg rfl ?_
     repeat (first|refine oi ?_|refine ow ?_|refine wy ?_|refine wn ?_|refine wt ?_|refine wf' ?_|refine cy ?_|refine cn ?_)
     exact⟨(by first|rfl|trivial),(by first|rfl|trivial)⟩
    | false=>
     refine zaf rfl ?_
     refine zrs (by omega) (by omega) ?_
     refine zOc (fun hd=>?_) (fun hd=>?_)
     ·rw[hd]
      repeat (first|refine oi ?_|refine ow ?_|refine wy ?_|refine wn ?_|refine wt ?_|refine wf' ?_|refine cy ?_|refine cn ?_)
      exact⟨by simp,(by first|rfl|trivial)⟩
     ·rw[hd]
      repeat (first|refine oi ?_|refine ow ?_|refine wy ?_|refine wn ?_|refine wt ?_|refine wf' ?_|refine cy ?_|refine cn ?_|refine ld hO 0 rfl rfl ?_|refine ld hO 1 rfl rfl ?_|refine ld hO 2 rfl rfl ?_|refine ld hO 3 rfl rfl ?_|refine ld hO 4 rfl rfl ?_|refine ld hO 5 rfl rfl ?_)
      refine zaa (show _=some (.bool (bt == [45])) from rfl) ?_
      refine zaa zTg ?_
      refine zOc (fun h1=>?_) (fun h1=>?_)
      ·rw[h1]
       repeat (first|refine oi ?_|refine ow ?_|refine wy ?_|refine wn ?_|refine wt ?_|refine wf' ?_|refine cy ?_|refine cn ?_)
       exact⟨by simp,(by first|rfl|trivial)⟩
      ·rw[h1]
       repeat (first|refine oi ?_|refine ow ?_|refine wy ?_|refine wn ?_|refine wt ?_|refine wf' ?_|refine cy ?_|refine cn ?_|refine ld hO 0 rfl rfl ?_|refine ld hO 1 rfl rfl ?_|refine ld hO 2 rfl rfl ?_|refine ld hO 3 rfl rfl ?_|refine ld hO 4 rfl rfl ?_|refine ld hO 5 rfl rfl ?_)
       refine zaa (show _=some (.bool (bt == [95])) from rfl) ?_
       refine zaa zTg ?_
       refine zOc (fun h2=>?_) (fun h2=>?_)
       ·rw[h2]
        repeat (first|refine oi ?_|refine ow ?_|refine wy ?_|refine wn ?_|refine wt ?_|refine wf' ?_|refine cy ?_|refine cn ?_)
        exact⟨by simp,(by first|rfl|trivial)⟩
       ·rw[h2]
        repeat (first|refine oi ?_|refine ow ?_|refine wy ?_|refine wn ?_|refine wt ?_|refine wf' ?_|refine cy ?_|refine cn ?_|refine ld hO 0 rfl rfl ?_|refine ld hO 1 rfl rfl ?_|refine ld hO 2 rfl rfl ?_|refine ld hO 3 rfl rfl ?_|refine ld hO 4 rfl rfl ?_|refine ld hO 5 rfl rfl ?_)
        refine zaa (show _=some (.bool (bt == [46])) from rfl) ?_
        refine zaa zTg ?_
        repeat (first|refine oi ?_|refine ow ?_|refine wy ?_|refine wn ?_|refine wt ?_|refine wf' ?_|refine cy ?_|refine cn ?_)
        refine zOc (fun h3=>?_) (fun h3=>?_)
        ·rw[h3]
         exact⟨by simp,(by first|rfl|trivial)⟩
        ·rw[h3]
         exact⟨by simp,(by first|rfl|trivial)⟩
   ·have e0:(y == 0)=true:=by simp; omega
    rw[e0]
    repeat (first|refine oi ?_|refine ow ?_|refine wy ?_|refine wn ?_|refine wt ?_|refine wf' ?_|refine cy ?_|refine cn ?_)
    exact⟨by simp,(by first|rfl|trivial)⟩
  rintro l' H' ⟨rfl,rfl⟩
  try simp only[zha,zia]
  refine zaa zWf ?_
  cases hz:okR ds[y] (y == 0) with
  | false=>
   rw[hz] at hok
   refine zaf rfl ?_
   exact hk0 hok _ hO.left
  | true=>
   rw[hz] at hok
   refine zgg rfl ?_
   repeat (first|refine oi ?_|refine ow ?_|refine wy ?_|refine wn ?_|refine wt ?_|refine wf' ?_|refine cy ?_|refine cn ?_)
   refine⟨ds.length - (y+1),by omega,y+1,by omega,rfl,rfl,?_,?_⟩
   ·rw[hΓ]; exact zzq (A:=[(pv,⟨rnC ds,true⟩)]) hO
   ·rw[hok]; rfl
 ·have e:y=ds.length:=by omega
  subst e
  rw[List.drop_of_length_le (Nat.le_refl _)] at hok
  exact hk1 hok _ hO.left
theorem zKl(hl:l.length≤1000000)(hO:St H Γ)(hk:∀ H',St H' Γ→K (int (nm4 l)) H'):wCall P zBd [str l] H K:=by
 apply zJn; unfold zLm
 refine zOm hl hO ?_
 clear hO
 intro H v hO hv
 have hsl:(zYn l).length≤l.length:=zTn _ _
 unfold nm4 at hk
 generalize zYn l=ds at *
 refine zwa (fun l' H'=>l'=[int 0,v]∧H=H'∧¬ (ds.length=0∨ds.length > 24)) ?_ ?_
 ·refine zra hv.lenSl ?_
  refine zaa zNd ?_
  refine zja (fun h=>?_) (fun h=>?_)
  ·repeat (first|refine oi ?_|refine ow ?_|refine wy ?_|refine wn ?_|refine wt ?_|refine wf' ?_|refine cy ?_|refine cn ?_)
   have:=hk H hO.left
   rw[if_pos (.inl (by omega))] at this
   exact this
  ·refine zra hv.lenSl ?_
   refine zaa zPc ?_
   refine zaa (zsb h) ?_
   refine zja (fun h2=>?_) (fun h2=>?_)
   ·have:=hk H hO.left
    rw[if_pos (.inr (by omega))] at this
    exact this
   ·exact⟨rfl,rfl,by omega⟩
 rintro l' H' ⟨rfl,rfl,hn⟩
 try simp only[zha,zia]
 rw[if_neg hn] at hk
 refine zra hv.lenSl ?_
 refine zUu (by omega) hv hO ?_ ?_
 ·intro h H hO
  rw[if_pos h] at hk
  exact hk H hO
 ·intro h H hO
  rw[if_neg (by rw[h]; simp)] at hk
  exact hk H hO
end J
set_option maxRecDepth 100000
namespace J
open Go Go.Ab
variable{l m:List UInt8}{ds:List (List UInt8)}
abbrev bsl(l:List UInt8):ByteArray:=⟨l.toArray⟩
theorem ztA(l:List UInt8)(k:Nat):((bsl l).get! k).toNat=cb l k:=by
 show ((l.toArray)[k]!).toNat=(l.getD k 0).toNat
 rw[List.getD_eq_getElem?_getD]
 by_cases h:k < l.length
 ·rw[getElem!_pos _ _ (by simpa using h),List.getElem?_eq_getElem h]; rfl
 ·rw[getElem!_neg _ _ (by simpa using h),List.getElem?_eq_none (by omega)]; rfl
theorem zFe(l:List UInt8):(bsl l).size=l.length:=rfl
set_option maxHeartbeats 4000000 in
theorem zyx(hl:l≠[]):(o4 l=none→Utf8.decode (bsl l) 0=(65533,1))∧(∀ r,o4 l=some r→Utf8.decode (bsl l) 0=r):=by
 have hl1:0 < l.length:=List.length_pos_iff.2 hl
 have c0:=zig l 0
 have c1:=zig l 1
 have c2:=zig l 2
 have c3:=zig l 3
 have key:Utf8.decode (bsl l) 0=(o4 l).getD (65533,1):=by
  unfold Utf8.decode
  simp only[Nat.zero_add,ztA,zFe,Utf8.runeError,Utf8.valid]
  unfold o4 zvp
  have hi:∀ c,(decide (isC c)=true)=(128≤c∧c≤191):=fun c=>by rw[decide_eq_true_eq]; rfl
  simp only[zEs,nP,hi,Bool.true_and,Bool.and_eq_true,decide_eq_true_eq,beq_iff_eq,Nat.add_one_sub_one,Nat.reduceSub,Nat.reduceAdd]
  generalize cb l 0=a at *
  generalize cb l 1=b at *
  generalize cb l 2=c at *
  generalize cb l 3=d at *
  generalize l.length=n at *
  simp only[Bool.or_eq_true,Bool.and_eq_true,decide_eq_true_eq]
  repeat' split
  all_goals simp only[Option.getD_some,Option.getD_none]
  all_goals first
   | rfl
   | (exfalso; omega)
   | (refine Prod.ext ?_ rfl; show (_:Nat)=_; omega)
 constructor
 ·intro h; rw[key,h]; rfl
 ·intro r h; rw[key,h]; rfl
theorem zuA{r:Nat × Nat}(h:o4 l=some r):¬ (r.1=65533∧r.2=1):=by
 have:=zig l 0
 unfold o4 at h
 split at h
 ·cases h; simp only; omega
 split at h
 ·have:=(zee h).2; omega
 split at h
 ·have:=(zee h).2; omega
 split at h
 ·have:=(zee h).2; omega
 ·cases h
theorem zEq{size n0 least:Nat}{r:Nat × Nat}(h:zvp l size n0 least=some r):least≤r.1:=by
 unfold zvp at h
 split at h
 ·cases h
 ·split at h
  ·split at h
   ·cases h
   ·cases h; simp only; omega
  ·cases h
theorem zvA{r:Nat × Nat}(h:o4 l=some r):(r.1 < 128→r.2=1∧r.1=cb l 0)∧(r.2=1→r.1=cb l 0∧r.1 < 128):=by
 have:=zig l 0
 unfold o4 at h
 split at h
 ·cases h; exact⟨fun _=>⟨rfl,rfl⟩,fun _=>⟨rfl,by assumption⟩⟩
 split at h
 ·have:=(zee h).2; have:=zEq h; exact⟨fun _=>by omega,fun _=>by omega⟩
 split at h
 ·have:=(zee h).2; have:=zEq h; exact⟨fun _=>by omega,fun _=>by omega⟩
 split at h
 ·have:=(zee h).2; have:=zEq h; exact⟨fun _=>by omega,fun _=>by omega⟩
 ·cases h
theorem zFq{r:Nat × Nat}(hl:l≠[])(h:o4 l=some r)(c:UInt8)(hc:c.toNat < 128):(l.take r.2 == [c])=((r.1:Int) == (c.toNat:Int)):=by
 obtain⟨h1,h2⟩:=zvA h
 obtain⟨w1,w2,w3⟩:=zTu h hl
 match l,hl with
 | a::t,_=>
 have ha:cb (a::t) 0=a.toNat:=rfl
 rw[Bool.eq_iff_iff,beq_iff_eq,beq_iff_eq]
 constructor
 ·intro e
  have hw:r.2=1:=by
   have:=congrArg List.length e
   rw[List.length_take] at this
   simp at this
   simp at w3
   omega
  rw[hw] at e
  have e:[a]=[c]:=by simpa using e
  cases e
  have:=(h2 hw).1
  rw[this,ha]
 ·intro e
  have hr:r.1=c.toNat:=by omega
  obtain⟨hw,hq⟩:=h1 (by omega)
  rw[hw]
  have:a=c:=by
   apply UInt8.toNat_inj.1
   omega
  simp[this]
theorem zVu(l:List UInt8)(pos i:Nat)(hp:pos < l.length):Seal.badF (bsl l) pos i=!okR (l.drop pos) (i == 0)∧(Utf8.decode (bsl l) pos).2=wid (l.drop pos):=by
 have hne:l.drop pos≠[]:=by
  intro h
  have:=congrArg List.length h
  simp at this
  omega
 have hx:(bsl l).extract pos (bsl l).size=bsl (l.drop pos):=by
  apply ByteArray.ext
  apply Array.ext'
  show _=l.drop pos
  rw[ByteArray.data_extract,Array.toList_extract]
  simp only[List.extract,zFe]
  exact List.take_of_length_le (by simp)
 have ht:=Go.Lib.tail_decode (bsl l) pos 0
 rw[hx,Nat.add_zero] at ht
 obtain⟨d0,d1⟩:=zyx hne
 have hz:(((i:Int)) == 0)=(i == 0):=by cases i <;> rfl
 unfold Seal.badF Seal.brF
 rw[hx]
 have hgo:Go.Lib.decodeGo (bsl (l.drop pos))=Utf8.decode (bsl (l.drop pos)) 0:=by
  unfold Go.Lib.decodeGo
  rw[if_neg (by rw[zFe]; intro h; exact hne (List.length_eq_zero_iff.1 h))]
 rw[hgo,← ht,hz]
 cases ho:o4 (l.drop pos) with
 | none=>
  rw[d0 ho]
  unfold okR wid
  rw[ho]
  exact⟨rfl,rfl⟩
 | some r=>
  rw[d1 r ho]
  refine⟨?_,by unfold wid; rw[ho]⟩
  have hfd:=zuA ho
  rw[decide_eq_false (show ¬ ((r.1:Int)=65533∧r.2=1) by omega),Bool.false_or]
  unfold okR Seal.partF
  rw[ho]
  simp only
  rw[zFq hne ho 45 (by decide),zFq hne ho 95 (by decide),zFq hne ho 46 (by decide)]
  show (!_)=!_
  congr 2
  rw[show ((45:UInt8).toNat:Int)=45 from rfl,show ((95:UInt8).toNat:Int)=95 from rfl,show ((46:UInt8).toNat:Int)=46 from rfl]
  simp only[Bool.or_assoc]
theorem zzx(l:List UInt8):∀ (b pos i:Nat),pos≤l.length→Seal.nmF (bsl l) b pos i=if zzj i (zfp b (l.drop pos))=true then Seal.finF ((i+(zfp b (l.drop pos)).length:Nat):Int) else 41
 | 0,pos,i,_=>by
  show Seal.finF i=if zzj i []=true then Seal.finF ((i+0:Nat):Int) else 41
  rfl
 | b+1,pos,i,hp=>by
  unfold Seal.nmF zfp
  by_cases h:pos < l.length
  ·obtain⟨h1,h2⟩:=zVu l pos i h
   have hne:l.drop pos≠[]:=by
    intro h
    have:=congrArg List.length h
    simp at this
    omega
   have hw:=zSn hne
   rw[List.length_drop] at hw
   rw[if_pos (show pos < (bsl l).size from h),if_neg hne,h1,h2]
   cases ho:okR (l.drop pos) (i == 0) with
   | false=>
    rw[if_pos (show (!false)=true from rfl),if_neg]
    show ¬ (okR (l.drop pos) (i == 0) && zzj (i+1) _)=true
    rw[ho]; simp
   | true=>
    rw[if_neg (show ¬ (!true)=true by simp)]
    have ih:=zzx l b (pos+wid (l.drop pos)) (i+1) (by omega)
    rw[show ((i:Int)+1)=((i+1:Nat):Int) by omega,ih,List.drop_drop]
    show _=if (okR (l.drop pos) (i == 0) && zzj (i+1) _)=true then _ else _
    rw[ho,Bool.true_and,List.length_cons,show i+((zfp b (l.drop (pos+wid (l.drop pos)))).length+1)=i+1+(zfp b (l.drop (pos+wid (l.drop pos)))).length by omega]
  ·have hnil:l.drop pos=[]:=List.drop_of_length_le (by omega)
   rw[if_neg (show ¬ pos < (bsl l).size from h),if_pos hnil]
   rfl
theorem zAx(l:List UInt8):nm4 l=Seal.nmF (bsl l) (bsl l).size 0 0:=by
 have:=zzx l l.length 0 0 (Nat.zero_le _)
 rw[List.drop_zero,Nat.zero_add] at this
 rw[zFe]
 refine Eq.trans ?_ this.symm
 unfold nm4 Seal.finF
 show _=if zzj 0 (zYn l)=true then (if (((zYn l).length:Nat):Int) < 1∨(((zYn l).length:Nat):Int) > 24 then 41 else 0) else 41
 by_cases h1:(zYn l).length=0∨(zYn l).length > 24
 ·rw[if_pos h1]
  split
  ·rw[if_pos (by omega)]
  ·rfl
 ·rw[if_neg h1]
  split
  ·rw[if_neg (by omega)]
  ·rfl
end J
set_option maxRecDepth 100000
namespace J
open Go Go.Ab
variable{H:Heap}{Γ Γ0 Γ2 Δ G L:List (Nat × Blk)}{K:VH}{v w x cv dv:Value}{xs ys zs bs b key ms:List Int}{j p q o n k:Nat}{e:Int}{cs cs':List Value}{l:List UInt8}
structure Mf where
 pr:List UInt8
 ver:Nat
 sz:Int
 ck:Int
 dg:List Int
 cks:List (List Int)
abbrev By(xs:List Int):Prop:=∀ x ∈ xs,0≤x∧x≤255
structure Mf.Ok (m:Mf):Prop where
 dl:m.dg.length=32
 db:By m.dg
 cl:∀ x ∈ m.cks,x.length=32
 cb:∀ x ∈ m.cks,By x
 ver:m.ver < 18446744073709551616
 sz:-9223372036854775808≤m.sz∧m.sz≤9223372036854775807
 ck:-9223372036854775808≤m.ck∧m.ck≤9223372036854775807
 n:m.cks.length≤10000
 pl:m.pr.length≤10000
def mfC(m:Mf)(cv:Value):List Value:=str m.pr::zbb .u64 m.ver::int m.sz::int m.ck::(by8 m.dg++[cv])
abbrev hsC(l:List (List Int)):List Value:=l.flatMap by8
def RdH(Γ:List (Nat × Blk))(v:Value)(cks:List (List Int)):Prop:=
 (v=zva∧cks=[])∨∃ (p c j:Nat) (w:Bool),v=sl p 0 cks.length c∧Γ[j]?=some (p,(⟨hsC cks,w⟩:Blk))
variable{m:Mf}{cks:List (List Int)}
theorem RdH.lenSl(h:RdH Γ v cks):lenSl v H=some (int cks.length,H):=by
 rcases h with⟨rfl,rfl⟩|⟨p,c,j,w,rfl,_⟩ <;> rfl
theorem RdH.shape(h:RdH Γ v cks):∃ a n c,v=.slice a n c:=by
 rcases h with⟨rfl,_⟩|⟨p,c,j,w,rfl,_⟩ <;> exact⟨_,_,_,rfl⟩
theorem RdH.app(h:RdH Γ v cks):RdH (Γ++Δ) v cks:=by
 rcases h with h|⟨p,c,j,w,h1,h2⟩
 ·exact .inl h
 ·exact .inr ⟨p,c,j,w,h1,zZa h2⟩
theorem RdH.app'(h:RdH Δ v cks):RdH (Γ++Δ) v cks:=by
 rcases h with h|⟨p,c,j,w,h1,h2⟩
 ·exact .inl h
 ·exact .inr ⟨p,c,Γ.length+j,w,h1,zEa h2⟩
theorem RdH.pos(h:RdH Γ v cks)(h0:0 < cks.length):∃ (p c j:Nat) (w:Bool),v=sl p 0 cks.length c∧Γ[j]?=some (p,(⟨hsC cks,w⟩:Blk)):=by
 rcases h with⟨_,rfl⟩|h
 ·simp at h0
 ·exact h
theorem zMa(hd:m.dg.length=32):(mfC m cv).length=37:=by simp[mfC,hd]
theorem zAh(hd:m.dg.length=32):(mfC m cv)[0+36]?=some cv:=by
 show (by8 m.dg++[cv])[32]?=_
 rw[List.getElem?_append_right (by simp[hd])]
 simp[hd]
theorem zqd(hc:oneCell cv=true):(mfC m cv).all oneCell=true:=by
 show (true && (true && (true && (true && (by8 m.dg++[cv]).all oneCell))))=true
 rw[List.all_append,zQf]
 simp[hc]
theorem zrd(hc:zkb cv=true):(mfC m cv).all zkb=true:=by
 show (true && (true && (true && (true && (by8 m.dg++[cv]).all zkb))))=true
 rw[List.all_append,zbh]
 simp[hc]
theorem RdH.one(h:RdH Γ v cks):oneCell v=true:=by obtain⟨a,n,c,rfl⟩:=h.shape; rfl
theorem RdH.simple(h:RdH Γ v cks):zkb v=true:=by
 rcases h with⟨rfl,_⟩|⟨p,c,j,w,rfl,_⟩ <;> rfl
theorem zud:zsa (agg (mfC m cv))=mfC m cv:=rfl
def cnt(s c:Int):Int:=if s < 1∨c < 1 then 0 else (s - 1) / c+1
theorem zGs{s c:Int}:0≤cnt s c:=by
 unfold cnt
 split
 ·omega
 ·have:=Int.ediv_nonneg (show 0≤s - 1 by omega) (show 0≤c by omega)
  omega
theorem zwA{s c:Nat}(hs:1≤s)(hc:1≤c):(s - 1) / c+1=s / c+(if s % c > 0 then 1 else 0):=by
 have h1:=Nat.div_add_mod s c
 have h2:=Nat.mod_lt s hc
 generalize s / c=Q at *
 generalize s % c=R at *
 subst h1
 by_cases hr:R=0
 ·subst hr
  rw[if_neg (by omega)]
  have hq:1≤Q:=by
   rcases Nat.eq_zero_or_pos Q with rfl|h
   ·simp at hs
   ·exact h
  obtain⟨t,rfl⟩:∃ t,Q=t+1:=⟨Q - 1,by omega⟩
  have:c * (t+1)+0 - 1=c * t+(c - 1):=by rw[Nat.mul_succ]; omega
  rw[this,Nat.mul_add_div (by omega),Nat.div_eq_of_lt (by omega)]
 ·rw[if_pos (by omega)]
  have:c * Q+R - 1=c * Q+(R - 1):=by omega
  rw[this,Nat.mul_add_div (by omega),Nat.div_eq_of_lt (by omega)]
theorem zPm{s c:Int}(hs:s≤9223372036854775807)(hc:c≤9223372036854775807)(hk:K (int (cnt s c)) H):wCall P zvc [int s,int c] H K:=by
 apply zwj; unfold zvh
 by_cases h1:s < 1
 ·refine zBc ?_
  repeat (first|refine oi ?_|refine ow ?_|refine wy ?_|refine wn ?_|refine wt ?_|refine wf' ?_|refine cy ?_|refine cn ?_)
  unfold cnt at hk
  rw[if_pos (.inl h1)] at hk
  exact hk
 by_cases h2:c < 1
 ·refine zBc ?_
  repeat (first|refine oi ?_|refine ow ?_|refine wy ?_|refine wn ?_|refine wt ?_|refine wf' ?_|refine cy ?_|refine cn ?_)
  unfold cnt at hk
  rw[if_pos (.inr h2)] at hk
  exact hk
 refine zwa (fun l' H'=>l'=[int s,int c]∧H=H') ?_ ?_
 ·repeat (first|refine oi ?_|refine ow ?_|refine wy ?_|refine wn ?_|refine wt ?_|refine wf' ?_|refine cy ?_|refine cn ?_)
  exact⟨(by first|rfl|trivial),(by first|rfl|trivial)⟩
 rintro l' H' ⟨rfl,rfl⟩
 try simp only[zha,zia]
 obtain⟨S,rfl⟩:∃ S:Nat,s=S:=⟨s.toNat,by omega⟩
 obtain⟨C,rfl⟩:∃ C:Nat,c=C:=⟨c.toNat,by omega⟩
 unfold cnt at hk
 rw[if_neg (by omega)] at hk
 repeat (first|refine oi ?_|refine ow ?_|refine wy ?_|refine wn ?_|refine wt ?_|refine wf' ?_|refine cy ?_|refine cn ?_)
 refine zaa (v:=int (((S - 1) / C:Nat):Int)) (by rw[show (S:Int) - 1=((S - 1:Nat):Int) by omega]; exact zdp (by omega) (by omega)) ?_
 have hle:=Nat.div_le_self (S - 1) C
 rw[show ((S:Int) - 1) / C+1=(((S - 1) / C:Nat):Int)+1 by rw[show (S:Int) - 1=((S - 1:Nat):Int) by omega,Int.natCast_ediv]] at hk
 generalize (S - 1) / C=Q at *
 repeat (first|refine oi ?_|refine ow ?_|refine wy ?_|refine wn ?_|refine wt ?_|refine wf' ?_|refine cy ?_|refine cn ?_)
 exact hk
theorem zhk{s c:Int}(hs:s≤9223372036854775806)(hc:c≤9223372036854775807)(hk:K (int (cnt s c)) H):wCall P zJf [int s,int c] H K:=by
 apply zem; unfold zrl
 by_cases h1:s < 1
 ·refine zBc ?_
  repeat (first|refine oi ?_|refine ow ?_|refine wy ?_|refine wn ?_|refine wt ?_|refine wf' ?_|refine cy ?_|refine cn ?_)
  unfold cnt at hk
  rw[if_pos (.inl h1)] at hk
  exact hk
 by_cases h2:c < 1
 ·refine zBc ?_
  repeat (first|refine oi ?_|refine ow ?_|refine wy ?_|refine wn ?_|refine wt ?_|refine wf' ?_|refine cy ?_|refine cn ?_)
  unfold cnt at hk
  rw[if_pos (.inr h2)] at hk
  exact hk
 refine zwa (fun l' H'=>l'=[int s,int c]∧H=H') ?_ ?_
 ·repeat (first|refine oi ?_|refine ow ?_|refine wy ?_|refine wn ?_|refine wt ?_|refine wf' ?_|refine cy ?_|refine cn ?_)
  exact⟨(by first|rfl|trivial),(by first|rfl|trivial)⟩
 rintro l' H' ⟨rfl,rfl⟩
 try simp only[zha,zia]
 obtain⟨S,rfl⟩:∃ S:Nat,s=S:=⟨s.toNat,by omega⟩
 obtain⟨C,rfl⟩:∃ C:Nat,c=C:=⟨c.toNat,by omega⟩
 unfold cnt at hk
 rw[if_neg (by omega)] at hk
 have hup:=zwA (s:=S) (c:=C) (by omega) (by omega)
 have hle:=Nat.div_le_self S C
 rw[show ((S:Int) - 1) / C+1=(((S - 1) / C+1:Nat):Int) by rw[show (S:Int) - 1=((S - 1:Nat):Int) by omega]; rfl,hup] at hk
 refine zaa (zdp (by omega) (by omega)) ?_
 generalize S / C=Q at *
 refine zaa (zzn (by omega)) ?_
 rw[show (Int.tmod (S:Int) (C:Int))=((S % C:Nat):Int) from rfl]
 refine zaa zPc ?_
 refine zja (fun h=>?_) (fun h=>?_)
 ·rw[if_pos (by omega)] at hk
  repeat (first|refine oi ?_|refine ow ?_|refine wy ?_|refine wn ?_|refine wt ?_|refine wf' ?_|refine cy ?_|refine cn ?_)
  exact hk
 ·rw[if_neg (by omega)] at hk
  exact hk
def zAj(l:List UInt8):Int:=Seal.nmF (bsl l) (bsl l).size 0 0
def zUa(m:Mf):Prop:=zAj m.pr=0∧1≤m.ver∧m.ver≤281474976710656∧1≤m.sz∧m.sz≤65536∧64≤m.ck∧m.ck≤1024∧m.ck % 64=0∧(m.cks.length:Int)=cnt m.sz m.ck∧m.cks.length≤64
instance (m:Mf):Decidable (zUa m):=by unfold zUa; exact inferInstance
theorem zHs(hl:l.length≤1000000)(hO:St H Γ)(hk:∀ H',St H' Γ→K (int (zAj l)) H'):wCall P zBd [str l] H K:=
 zKl hl hO fun H' h=>by rw[zAx]; exact hk H' h
theorem zcz(hl:l.length≤1000000)(hk:K (int (zAj l)) H):wCall P zyg [str l] H K:=
 zjl (by rw[zFe]; omega) hk
set_option maxHeartbeats 4000000 in
theorem zBj(ok:m.Ok)(hc:RdH Γ cv m.cks)(hO:St H Γ)(hk:∀ H',St H' Γ→K (.bool (decide (zUa m))) H'):wCall P zNb [agg (mfC m cv)] H K:=by
 apply zsj; unfold zuh
 have hno:∀ {H:Heap} {Δ},St H (Γ++Δ)→¬ zUa m→K (.bool false) H:=fun h hn=>by
  have:=hk _ h.left
  rw[decide_eq_false hn] at this; exact this
 have hsz:=ok.sz
 have hck:=ok.ck
 have hv:=ok.ver
 have hl:=ok.n
 have h36:=zAh (cv:=cv) ok.dl
 rw[zud]
 refine nw hO.z ?_
 clear hO
 intro p1 H hO
 replace hO:St H (Γ++[(p1,⟨mfC m cv,true⟩)]):=hO
 refine zwa (fun l' H'=>l'=[ptr p1 0]∧H=H'∧zAj m.pr=0∧1≤m.ver∧m.ver≤281474976710656∧1≤m.sz∧m.sz≤65536∧64≤m.ck∧m.ck≤1024∧m.ck % 64=0) ?_ ?_
 ·refine zwa (fun l' H'=>l'=[ptr p1 0,.bool (decide (¬ (zAj m.pr=0∧1≤m.ver∧m.ver≤281474976710656)))]∧H=H') ?_ ?_
  ·repeat (first|refine oi ?_|refine ow ?_|refine wy ?_|refine wn ?_|refine wt ?_|refine wf' ?_|refine cy ?_|refine cn ?_|refine ld hO 0 rfl rfl ?_|refine ld hO 1 rfl rfl ?_|refine ld hO 2 rfl rfl ?_|refine ld hO 3 rfl rfl ?_|refine ld hO 4 rfl rfl ?_|refine ld hO 5 rfl rfl ?_)
   refine zcz (by have:=ok.pl; omega) ?_
   refine zaa zAc ?_
   refine zja (fun h1=>?_) (fun h1=>?_)
   ·exact⟨by rw[decide_eq_decide.2 (show zAj m.pr≠0↔¬ (zAj m.pr=0∧1≤m.ver∧m.ver≤281474976710656) by omega)],(by first|rfl|trivial)⟩
   ·repeat (first|refine oi ?_|refine ow ?_|refine wy ?_|refine wn ?_|refine wt ?_|refine wf' ?_|refine cy ?_|refine cn ?_|refine ld hO 0 rfl rfl ?_|refine ld hO 1 rfl rfl ?_|refine ld hO 2 rfl rfl ?_|refine ld hO 3 rfl rfl ?_|refine ld hO 4 rfl rfl ?_|refine ld hO 5 rfl rfl ?_)
    refine zja (fun h2=>?_) (fun h2=>?_)
    ·exact⟨by rw[decide_eq_decide.2 (show ((m.ver:Int) < 1)↔¬ (zAj m.pr=0∧1≤m.ver∧m.ver≤281474976710656) by omega)],(by first|rfl|trivial)⟩
    ·repeat (first|refine oi ?_|refine ow ?_|refine wy ?_|refine wn ?_|refine wt ?_|refine wf' ?_|refine cy ?_|refine cn ?_|refine ld hO 0 rfl rfl ?_|refine ld hO 1 rfl rfl ?_|refine ld hO 2 rfl rfl ?_|refine ld hO 3 rfl rfl ?_|refine ld hO 4 rfl rfl ?_|refine ld hO 5 rfl rfl ?_)
     exact⟨by rw[decide_eq_decide.2 (show ((281474976710656:Int) < (m.ver:Int))↔¬ (zAj m.pr=0∧1≤m.ver∧m.ver≤281474976710656) by omega)],(by first|rfl|trivial)⟩
  rintro l' H' ⟨rfl,rfl⟩
  try simp only[zha,zia]
  refine zja (fun h1=>?_) (fun h1=>?_)
  ·exact hno hO (fun h=>h1 ⟨h.1,h.2.1,h.2.2.1⟩)
  refine zwa (fun l' H'=>l'=[ptr p1 0,.bool (decide (¬ (1≤m.sz∧m.sz≤65536)))]∧H=H') ?_ ?_
  ·repeat (first|refine oi ?_|refine ow ?_|refine wy ?_|refine wn ?_|refine wt ?_|refine wf' ?_|refine cy ?_|refine cn ?_|refine ld hO 0 rfl rfl ?_|refine ld hO 1 rfl rfl ?_|refine ld hO 2 rfl rfl ?_|refine ld hO 3 rfl rfl ?_|refine ld hO 4 rfl rfl ?_|refine ld hO 5 rfl rfl ?_)
   refine zja (fun h2=>?_) (fun h2=>?_)
   ·repeat (first|refine oi ?_|refine ow ?_|refine wy ?_|refine wn ?_|refine wt ?_|refine wf' ?_|refine cy ?_|refine cn ?_|refine ld hO 0 rfl rfl ?_|refine ld hO 1 rfl rfl ?_|refine ld hO 2 rfl rfl ?_|refine ld hO 3 rfl rfl ?_|refine ld hO 4 rfl rfl ?_|refine ld hO 5 rfl rfl ?_)
    exact⟨by rw[decide_eq_true (show ¬ (1≤m.sz∧m.sz≤65536) by omega)],(by first|rfl|trivial)⟩
   ·repeat (first|refine oi ?_|refine ow ?_|refine wy ?_|refine wn ?_|refine wt ?_|refine wf' ?_|refine cy ?_|refine cn ?_|refine ld hO 0 rfl rfl ?_|refine ld hO 1 rfl rfl ?_|refine ld hO 2 rfl rfl ?_|refine ld hO 3 rfl rfl ?_|refine ld hO 4 rfl rfl ?_|refine ld hO 5 rfl rfl ?_)
    exact⟨by rw[decide_eq_decide.2 (show ((65536:Int) < m.sz)↔¬ (1≤m.sz∧m.sz≤65536) by omega)],(by first|rfl|trivial)⟩
  rintro l' H' ⟨rfl,rfl⟩
  try simp only[zha,zia]
  refine zja (fun h2=>?_) (fun h2=>?_)
  ·exact hno hO (fun h=>h2 ⟨h.2.2.2.1,h.2.2.2.2.1⟩)
  repeat (first|refine oi ?_|refine ow ?_|refine wy ?_|refine wn ?_|refine wt ?_|refine wf' ?_|refine cy ?_|refine cn ?_|refine ld hO 0 rfl rfl ?_|refine ld hO 1 rfl rfl ?_|refine ld hO 2 rfl rfl ?_|refine ld hO 3 rfl rfl ?_|refine ld hO 4 rfl rfl ?_|refine ld hO 5 rfl rfl ?_)
  refine zja (fun h3=>?_) (fun h3=>?_)
  ·repeat (first|refine oi ?_|refine ow ?_|refine wy ?_|refine wn ?_|refine wt ?_|refine wf' ?_|refine cy ?_|refine cn ?_|refine ld hO 0 rfl rfl ?_|refine ld hO 1 rfl rfl ?_|refine ld hO 2 rfl rfl ?_|refine ld hO 3 rfl rfl ?_|refine ld hO 4 rfl rfl ?_|refine ld hO 5 rfl rfl ?_)
   exact hno hO (fun h=>by have:=h.2.2.2.2.2.1; omega)
  repeat (first|refine oi ?_|refine ow ?_|refine wy ?_|refine wn ?_|refine wt ?_|refine wf' ?_|refine cy ?_|refine cn ?_|refine ld hO 0 rfl rfl ?_|refine ld hO 1 rfl rfl ?_|refine ld hO 2 rfl rfl ?_|refine ld hO 3 rfl rfl ?_|refine ld hO 4 rfl rfl ?_|refine ld hO 5 rfl rfl ?_)
  refine zja (fun h4=>?_) (fun h4=>?_)
  ·repeat (first|refine oi ?_|refine ow ?_|refine wy ?_|refine wn ?_|refine wt ?_|refine wf' ?_|refine cy ?_|refine cn ?_|refine ld hO 0 rfl rfl ?_|refine ld hO 1 rfl rfl ?_|refine ld hO 2 rfl rfl ?_|refine ld hO 3 rfl rfl ?_|refine ld hO 4 rfl rfl ?_|refine ld hO 5 rfl rfl ?_)
   exact hno hO (fun h=>by have:=h.2.2.2.2.2.2.1; omega)
  repeat (first|refine oi ?_|refine ow ?_|refine wy ?_|refine wn ?_|refine wt ?_|refine wf' ?_|refine cy ?_|refine cn ?_|refine ld hO 0 rfl rfl ?_|refine ld hO 1 rfl rfl ?_|refine ld hO 2 rfl rfl ?_|refine ld hO 3 rfl rfl ?_|refine ld hO 4 rfl rfl ?_|refine ld hO 5 rfl rfl ?_)
  have em:m.ck.tmod 64=m.ck % 64:=Int.tmod_eq_emod_of_nonneg (by omega)
  refine zaa (zzn (by omega)) ?_
  rw[em]
  repeat (first|refine oi ?_|refine ow ?_|refine wy ?_|refine wn ?_|refine wt ?_|refine wf' ?_|refine cy ?_|refine cn ?_|refine ld hO 0 rfl rfl ?_|refine ld hO 1 rfl rfl ?_|refine ld hO 2 rfl rfl ?_|refine ld hO 3 rfl rfl ?_|refine ld hO 4 rfl rfl ?_|refine ld hO 5 rfl rfl ?_)
  refine zja (fun h5=>?_) (fun h5=>?_)
  ·exact hno hO (fun h=>h5 h.2.2.2.2.2.2.2.1)
  ·refine⟨(by first|rfl|trivial),(by first|rfl|trivial),?_⟩
   omega
 rintro l' H' ⟨rfl,rfl,g1,g2,g3,g4,g5,g6,g7,g8⟩
 try simp only[zha,zia]
 refine zaa zba ?_
 refine ld hO 0 rfl h36 ?_
 refine zra hc.lenSl ?_
 repeat (first|refine oi ?_|refine ow ?_|refine wy ?_|refine wn ?_|refine wt ?_|refine wf' ?_|refine cy ?_|refine cn ?_|refine ld hO 0 rfl rfl ?_|refine ld hO 1 rfl rfl ?_|refine ld hO 2 rfl rfl ?_|refine ld hO 3 rfl rfl ?_|refine ld hO 4 rfl rfl ?_|refine ld hO 5 rfl rfl ?_)
 refine zPm (by omega) (by omega) ?_
 refine⟨zWb hO (Γ.length+0) (zEa rfl) hO (Γ.length+0) (zEa rfl) (zrd hc.simple),?_⟩
 refine zaa zNd ?_
 refine zja (fun h6=>?_) (fun h6=>?_)
 ·refine zaa zba ?_
  refine ld hO 0 rfl h36 ?_
  refine zra hc.lenSl ?_
  refine zaa zgq ?_
  refine zaa (zSc h6) ?_
  have:=hk _ hO.left
  rw[decide_eq_decide.2 (show zUa m↔((m.cks.length:Int)≤64) from⟨fun h=>by have:=h.2.2.2.2.2.2.2.2.2; omega,fun h=>⟨g1,g2,g3,g4,g5,g6,g7,g8,h6,by omega⟩⟩)] at this
  exact this
 ·refine zaa (zsb h6) ?_
  exact hno hO (fun h=>h6 h.2.2.2.2.2.2.2.2.1)
set_option maxHeartbeats 4000000 in
theorem zik(ok:m.Ok)(hc:RdH Γ cv m.cks)(hO:St H Γ)(hk:∀ H',St H' Γ→K (.bool (decide (zUa m))) H'):wCall P zGf [agg (mfC m cv)] H K:=by
 apply zbm; unfold zpl
 have hno:∀ {H:Heap} {Δ},St H (Γ++Δ)→¬ zUa m→K (.bool false) H:=fun h hn=>by
  have:=hk _ h.left
  rw[decide_eq_false hn] at this; exact this
 have hsz:=ok.sz
 have hck:=ok.ck
 have hv:=ok.ver
 have hl:=ok.n
 have h36:=zAh (cv:=cv) ok.dl
 rw[zud]
 refine nw hO.z ?_
 clear hO
 intro p1 H hO
 replace hO:St H (Γ++[(p1,⟨mfC m cv,true⟩)]):=hO
 refine zwa (fun l' H'=>l'=[ptr p1 0]∧St H' (Γ++[(p1,⟨mfC m cv,true⟩)])∧zAj m.pr=0∧1≤m.ver∧m.ver≤281474976710656∧1≤m.sz∧m.sz≤65536) ?_ ?_
 ·repeat (first|refine oi ?_|refine ow ?_|refine wy ?_|refine wn ?_|refine wt ?_|refine wf' ?_|refine cy ?_|refine cn ?_|refine ld hO 0 rfl rfl ?_|refine ld hO 1 rfl rfl ?_|refine ld hO 2 rfl rfl ?_|refine ld hO 3 rfl rfl ?_|refine ld hO 4 rfl rfl ?_|refine ld hO 5 rfl rfl ?_)
  refine zHs (by have:=ok.pl; omega) hO ?_
  clear hO
  intro H hO
  refine zaa zAc ?_
  refine zja (fun h1=>?_) (fun h1=>?_)
  ·repeat (first|refine oi ?_|refine ow ?_|refine wy ?_|refine wn ?_|refine wt ?_|refine wf' ?_|refine cy ?_|refine cn ?_|refine ld hO 0 rfl rfl ?_|refine ld hO 1 rfl rfl ?_|refine ld hO 2 rfl rfl ?_|refine ld hO 3 rfl rfl ?_|refine ld hO 4 rfl rfl ?_|refine ld hO 5 rfl rfl ?_)
   exact hno hO (fun h=>h1 h.1)
  repeat (first|refine oi ?_|refine ow ?_|refine wy ?_|refine wn ?_|refine wt ?_|refine wf' ?_|refine cy ?_|refine cn ?_|refine ld hO 0 rfl rfl ?_|refine ld hO 1 rfl rfl ?_|refine ld hO 2 rfl rfl ?_|refine ld hO 3 rfl rfl ?_|refine ld hO 4 rfl rfl ?_|refine ld hO 5 rfl rfl ?_)
  refine zja (fun h2=>?_) (fun h2=>?_)
  ·repeat (first|refine oi ?_|refine ow ?_|refine wy ?_|refine wn ?_|refine wt ?_|refine wf' ?_|refine cy ?_|refine cn ?_|refine ld hO 0 rfl rfl ?_|refine ld hO 1 rfl rfl ?_|refine ld hO 2 rfl rfl ?_|refine ld hO 3 rfl rfl ?_|refine ld hO 4 rfl rfl ?_|refine ld hO 5 rfl rfl ?_)
   exact hno hO (fun h=>by have:=h.2.1; omega)
  repeat (first|refine oi ?_|refine ow ?_|refine wy ?_|refine wn ?_|refine wt ?_|refine wf' ?_|refine cy ?_|refine cn ?_|refine ld hO 0 rfl rfl ?_|refine ld hO 1 rfl rfl ?_|refine ld hO 2 rfl rfl ?_|refine ld hO 3 rfl rfl ?_|refine ld hO 4 rfl rfl ?_|refine ld hO 5 rfl rfl ?_)
  refine zja (fun h3=>?_) (fun h3=>?_)
  ·repeat (first|refine oi ?_|refine ow ?_|refine wy ?_|refine wn ?_|refine wt ?_|refine wf' ?_|refine cy ?_|refine cn ?_|refine ld hO 0 rfl rfl ?_|refine ld hO 1 rfl rfl ?_|refine ld hO 2 rfl rfl ?_|refine ld hO 3 rfl rfl ?_|refine ld hO 4 rfl rfl ?_|refine ld hO 5 rfl rfl ?_)
   exact hno hO (fun h=>by have:=h.2.2.1; omega)
  repeat (first|refine oi ?_|refine ow ?_|refine wy ?_|refine wn ?_|refine wt ?_|refine wf' ?_|refine cy ?_|refine cn ?_|refine ld hO 0 rfl rfl ?_|refine ld hO 1 rfl rfl ?_|refine ld hO 2 rfl rfl ?_|refine ld hO 3 rfl rfl ?_|refine ld hO 4 rfl rfl ?_|refine ld hO 5 rfl rfl ?_)
  refine zja (fun h4=>?_) (fun h4=>?_)
  ·repeat (first|refine oi ?_|refine ow ?_|refine wy ?_|refine wn ?_|refine wt ?_|refine wf' ?_|refine cy ?_|refine cn ?_|refine ld hO 0 rfl rfl ?_|refine ld hO 1 rfl rfl ?_|refine ld hO 2 rfl rfl ?_|refine ld hO 3 rfl rfl ?_|refine ld hO 4 rfl rfl ?_|refine ld hO 5 rfl rfl ?_)
   exact hno hO (fun h=>by have:=h.2.2.2.1; omega)
  repeat (first|refine oi ?_|refine ow ?_|refine wy ?_|refine wn ?_|refine wt ?_|refine wf' ?_|refine cy ?_|refine cn ?_|refine ld hO 0 rfl rfl ?_|refine ld hO 1 rfl rfl ?_|refine ld hO 2 rfl rfl ?_|refine ld hO 3 rfl rfl ?_|refine ld hO 4 rfl rfl ?_|refine ld hO 5 rfl rfl ?_)
  refine zja (fun h5=>?_) (fun h5=>?_)
  ·exact hno hO (fun h=>by have:=h.2.2.2.2.1; omega)
  ·exact⟨rfl,hO,by omega⟩
 clear hO
 rintro l' H ⟨rfl,hO,g1,g2,g3,g4,g5⟩
 try simp only[zha,zia]
 refine zwa (fun l' H'=>l'=[ptr p1 0]∧H=H'∧64≤m.ck∧m.ck≤1024∧m.ck % 64=0) ?_ ?_
 ·repeat (first|refine oi ?_|refine ow ?_|refine wy ?_|refine wn ?_|refine wt ?_|refine wf' ?_|refine cy ?_|refine cn ?_|refine ld hO 0 rfl rfl ?_|refine ld hO 1 rfl rfl ?_|refine ld hO 2 rfl rfl ?_|refine ld hO 3 rfl rfl ?_|refine ld hO 4 rfl rfl ?_|refine ld hO 5 rfl rfl ?_)
  refine zja (fun h3=>?_) (fun h3=>?_)
  ·repeat (first|refine oi ?_|refine ow ?_|refine wy ?_|refine wn ?_|refine wt ?_|refine wf' ?_|refine cy ?_|refine cn ?_|refine ld hO 0 rfl rfl ?_|refine ld hO 1 rfl rfl ?_|refine ld hO 2 rfl rfl ?_|refine ld hO 3 rfl rfl ?_|refine ld hO 4 rfl rfl ?_|refine ld hO 5 rfl rfl ?_)
   exact hno hO (fun h=>by have:=h.2.2.2.2.2.1; omega)
  repeat (first|refine oi ?_|refine ow ?_|refine wy ?_|refine wn ?_|refine wt ?_|refine wf' ?_|refine cy ?_|refine cn ?_|refine ld hO 0 rfl rfl ?_|refine ld hO 1 rfl rfl ?_|refine ld hO 2 rfl rfl ?_|refine ld hO 3 rfl rfl ?_|refine ld hO 4 rfl rfl ?_|refine ld hO 5 rfl rfl ?_)
  refine zja (fun h4=>?_) (fun h4=>?_)
  ·repeat (first|refine oi ?_|refine ow ?_|refine wy ?_|refine wn ?_|refine wt ?_|refine wf' ?_|refine cy ?_|refine cn ?_|refine ld hO 0 rfl rfl ?_|refine ld hO 1 rfl rfl ?_|refine ld hO 2 rfl rfl ?_|refine ld hO 3 rfl rfl ?_|refine ld hO 4 rfl rfl ?_|refine ld hO 5 rfl rfl ?_)
   exact hno hO (fun h=>by have:=h.2.2.2.2.2.2.1; omega)
  repeat (first|refine oi ?_|refine ow ?_|refine wy ?_|refine wn ?_|refine wt ?_|refine wf' ?_|refine cy ?_|refine cn ?_|refine ld hO 0 rfl rfl ?_|refine ld hO 1 rfl rfl ?_|refine ld hO 2 rfl rfl ?_|refine ld hO 3 rfl rfl ?_|refine ld hO 4 rfl rfl ?_|refine ld hO 5 rfl rfl ?_)
  have em:m.ck.tmod 64=m.ck % 64:=Int.tmod_eq_emod_of_nonneg (by omega)
  refine zaa (zzn (by omega)) ?_
  rw[em]
  repeat (first|refine oi ?_|refine ow ?_|refine wy ?_|refine wn ?_|refine wt ?_|refine wf' ?_|refine cy ?_|refine cn ?_|refine ld hO 0 rfl rfl ?_|refine ld hO 1 rfl rfl ?_|refine ld hO 2 rfl rfl ?_|refine ld hO 3 rfl rfl ?_|refine ld hO 4 rfl rfl ?_|refine ld hO 5 rfl rfl ?_)
  refine zja (fun h5=>?_) (fun h5=>?_)
  ·exact hno hO (fun h=>h5 h.2.2.2.2.2.2.2.1)
  ·refine⟨(by first|rfl|trivial),(by first|rfl|trivial),?_⟩
   omega
 rintro l' H' ⟨rfl,rfl,g6,g7,g8⟩
 try simp only[zha,zia]
 refine zaa zba ?_
 refine ld hO 0 rfl h36 ?_
 refine zra hc.lenSl ?_
 refine zaa zgq ?_
 refine zja (fun h6=>?_) (fun h6=>?_)
 ·refine zaa zba ?_
  refine ld hO 0 rfl h36 ?_
  refine zra hc.lenSl ?_
  repeat (first|refine oi ?_|refine ow ?_|refine wy ?_|refine wn ?_|refine wt ?_|refine wf' ?_|refine cy ?_|refine cn ?_|refine ld hO 0 rfl rfl ?_|refine ld hO 1 rfl rfl ?_|refine ld hO 2 rfl rfl ?_|refine ld hO 3 rfl rfl ?_|refine ld hO 4 rfl rfl ?_|refine ld hO 5 rfl rfl ?_)
  refine zhk (by omega) (by omega) ?_
  refine⟨zWb hO (Γ.length+0) (zEa rfl) hO (Γ.length+0) (zEa rfl) (zrd hc.simple),?_⟩
  refine zaa zNd ?_
  refine zaa (zSc h6) ?_
  have:=hk _ hO.left
  rw[decide_eq_decide.2 (show zUa m↔((m.cks.length:Int)=cnt m.sz m.ck) from⟨fun h=>h.2.2.2.2.2.2.2.2.1,fun h=>⟨g1,g2,g3,g4,g5,g6,g7,g8,h,by omega⟩⟩)] at this
  exact this
 ·refine zaa (zsb h6) ?_
  exact hno hO (fun h=>by have:=h.2.2.2.2.2.2.2.2.2; omega)
end J
set_option maxRecDepth 100000
namespace J
open Go Go.Ab
variable{H:Heap}{Γ Γ0 Γ2 Δ G L:List (Nat × Blk)}{K:VH}{v w x cv dv:Value}{xs ys zs bs b key ms:List Int}{j p q o n k:Nat}{e:Int}{cs cs':List Value}{l:List UInt8}{m:Mf}{cks:List (List Int)}
theorem zIs(hO:St H (Γ++zGb v cs))(hv:OwnB v xs cs)(hx:lenA x=some ys.length)(he:zRf H 1 ys.length x=some (by8 ys))(hl:xs.length+ys.length≤1000000000)
  (hk:∀ H' v' cs',St H' (Γ++zGb v' cs')→OwnB v' (xs++ys) cs'→K v' H'):opW (zoa 1 1 v x H) K:=by
 unfold zoa
 simp only[hx,he]
 by_cases hy:ys=[]
 ·subst hy
  rw[List.append_nil] at hk
  unfold zpb
  rcases hv with⟨rfl,rfl,rfl⟩|⟨p,rfl|⟨rfl,h1⟩,h2,h3⟩
  ·exact zra (show some (zva,H)=_ from rfl) (hk _ _ _ hO .nil)
  ·exact zra (show some (sl p 0 xs.length 2,H)=_ from rfl) (hk _ _ _ hO (.inr ⟨p,.inl rfl,h2,h3⟩))
  ·exact zra (show some (sl p 0 xs.length 3,H)=_ from rfl) (hk _ _ _ hO (.inr ⟨p,.inr ⟨rfl,h1⟩,h2,h3⟩))
 have hpos:0 < ys.length:=List.length_pos_iff.2 hy
 have hmb:Nat.beq ys.length 0=false:=by
  cases hb:Nat.beq ys.length 0 with
  | false=>rfl
  | true=>have:=Nat.eq_of_beq_eq_true hb; omega
 have h1:(by8 ys).all oneCell=true:=by simp[oneCell]
 have own':∀ p,OwnB (sl p 0 (xs.length+ys.length) 2) (xs++ys) (by8 xs++by8 ys):=fun p=>by
  refine .inr ⟨p,.inl (by rw[List.length_append]),?_,by simp,by simp[zkb,zQc]⟩
  rw[List.take_of_length_le (by simp)]
  exact (List.map_append).symm
 unfold zpb
 rcases hv with⟨rfl,rfl,rfl⟩|⟨p,hv,h2,h3,h4⟩
 ·simp only[hmb,Bool.false_eq_true,if_false]
  rw[if_pos (zOd (by omega) (by omega))]
  have hO:St H Γ:=by simpa [zGb] using hO
  refine zra (show zKa (by8 ys) ys.length (2 * 1) H=some (sl H.next 0 ys.length 2,H.push (by8 ys)) from rfl) (hk _ _ (by8 ys) (hO.push _) ?_)
  have:=own' H.next
  simpa using this
 ·have hΓ:zGb v cs=[(p,⟨cs,true⟩)]:=by rcases hv with rfl|⟨rfl,_⟩ <;> rfl
  rw[hΓ] at hO
  have hi:(Γ++[(p,(⟨cs,true⟩:Blk))])[Γ.length]?=some (p,⟨cs,true⟩):=by simp
  have hget:=hO.at _ hi (.inl rfl)
  rcases hv with rfl|⟨rfl,hlen⟩
  ·have her:=hO.erase hi
   have he:(Γ++[(p,(⟨cs,true⟩:Blk))]).eraseIdx Γ.length=Γ:=by
    rw[List.eraseIdx_append_of_length_le (Nat.le_refl _)]; simp
   rw[he] at her
   simp only[hmb,Bool.false_eq_true,if_false]
   rw[if_pos (zOd (by omega) (by omega))]
   rw[if_neg (show ¬ Nat.beq 2 (2 * 1+1)=true by decide),if_pos (show Nat.beq 2 (2 * 1)=true by decide)]
   unfold zFc
   rw[hget]
   have e:(Heap.mayWrite H p ⟨cs,true⟩ && (Nat.ble (0+xs.length * 1) (zvd cs) && zKg oneCell (by8 ys)))=true:=by
    unfold Heap.mayWrite
    rw[hO.fl,zta,zRa,h1,zfb,zfb,decide_eq_true (by omega:0+xs.length * 1≤cs.length)]
    simp
   simp only[e]
   have e2:zfg (zkg (takeN cs (0+xs.length * 1)) 0) (by8 ys)=by8 xs++by8 ys:=by
    rw[zFa,zQa,zIa,Nat.zero_add,Nat.mul_one,h2]; rfl
   rw[e2]
   exact zra (show zKa (by8 xs++by8 ys) (xs.length+ys.length) (2 * 1) (H.set p none)=some (sl H.next 0 (xs.length+ys.length) 2,(H.set p none).push (by8 xs++by8 ys)) from rfl) (hk _ _ _ (her.push _) (own' _))
  ·simp only[hmb,Bool.false_eq_true,if_false]
   rw[if_pos (zOd (by omega) (by omega))]
   rw[if_pos (show Nat.beq 3 (2 * 1+1)=true by decide)]
   unfold zvb
   have hcs:cs=by8 xs:=by rw[← hlen] at h2; rw[List.take_of_length_le (Nat.le_refl _)] at h2; exact h2
   have e3:(if Nat.beq xs.length 0=true then some [] else zqb H p 0 (xs.length * 1))=some (by8 xs):=by
    split
    ·rename_i h0
     have h0:=Nat.eq_of_beq_eq_true h0
     have:xs=[]:=List.length_eq_zero_iff.1 h0
     rw[this]; rfl
    ·rw[zxb]
     rw[hget]
     simp only[zGe,zIa,zQa,zta,List.drop_zero,Nat.mul_one]
     rw[h2,List.length_map,Nat.beq_refl]
   rw[e3]
   simp only[zFa]
   exact zra (show zKa (by8 xs++by8 ys) (xs.length+ys.length) (2 * 1) H=some (sl H.next 0 (xs.length+ys.length) 2,H.push (by8 xs++by8 ys)) from rfl) (hk _ _ _ (hO.left.push _) (own' _))
def ub(l:List UInt8):List Int:=l.map fun b=>(b.toNat:Int)
theorem zBh:(ub l).length=l.length:=by simp[ub]
theorem zqB:By (ub l):=by
 intro x hx
 obtain⟨b,_,rfl⟩:=List.mem_map.1 hx
 have:=b.toNat_lt
 omega
theorem zxA:l.map zHe=by8 (ub l):=by simp[by8,ub,zHe]
theorem zBx(xs:List Int)(h:By xs):ub (xs.map fun n=>UInt8.ofNat n.toNat)=xs:=by
 unfold ub
 rw[List.map_map]
 conv=>rhs; rw[← List.map_id xs]
 refine List.map_congr_left fun x hx=>?_
 have:=h x hx
 show ((UInt8.ofNat x.toNat).toNat:Int)=x
 rw[UInt8.toNat_ofNat',Nat.mod_eq_of_lt (by omega)]
 omega
theorem zJs(hO:St H (Γ++zGb v cs))(hv:OwnB v xs cs)(hl:xs.length+l.length≤1000000000)
  (hk:∀ H' v' cs',St H' (Γ++zGb v' cs')→OwnB v' (xs++ub l) cs'→K v' H'):opW (zoa 1 1 v (str l) H) K:=by
 refine zIs hO hv ?_ ?_ (by rw[zBh]; exact hl) hk
 ·show some (zvd l)=_
  rw[zta,zBh]
 ·show some ((takeN l (ub l).length).map zHe)=_
  rw[zIa,List.take_of_length_le (by rw[zBh]; omega),zxA]
def txB(l:List UInt8):List Int:=leN 2 l.length++ub l
theorem zyA(s:ByteArray)(H:Heap):(zea P 123 1).f [(0,.string s)] H=some (sl H.next 0 1 3,H.push [.string s]):=by kernel_rfl
theorem zqz(n:Nat):leN 2 n=[((n % 256:Nat):Int),((n / 256 % 256:Nat):Int)]:=by simp[leN,List.range_succ]
theorem zrB{t:TypeId}{c:Bool}{a:Nat}:(zla P .shr t c).f (int a) (.int .u64 8)=some (int ((a / 256:Nat):Int)):=by
 show zVh false .i64 a (8:Nat)=_
 unfold zVh
 rw[if_neg (by omega),if_neg (by simp),Int.toNat_natCast,show min 8 IntKind.i64.bits=8 from rfl,← Int.ofNat_fdiv]
theorem zdz{n:Nat}:zmb .u8 (int n) H=some (zbb .u8 (n % 256),H):=by
 show some (Value.int .u8 (zBb .u8 (n:Int)),H)=_
 rw[zXf rfl]; rfl
set_option maxHeartbeats 1000000 in
theorem zKs{q c:Nat}(hO:St H Γ)(hq:Γ[j]?=some (q,⟨[str l],true⟩))(hl:l.length≤1000000)(hk:MadeB Γ K (txB l)):wCall P zIf [zva,sl q 0 1 c] H K:=by
 apply zVo; unfold zUo
 refine zyj (xs:=[]) hO .nil (by simp) ?_
 clear hO
 intro H v1 c1 hO hv1
 refine zra zUg ?_
 refine zdk (fun k l' H'=>∃ (y:Nat) (v1:Value) (c1:List Value),y≤1∧k=1 - y∧l'=[zva,v1,sl q 0 1 c,int 1,int y]∧St H' (Γ++zGb v1 c1)∧OwnB v1 ([txB l].take y).flatten c1) _ _ ?_ 1 _ _ ⟨0,v1,c1,by omega,rfl,rfl,hO,hv1⟩
 clear hO hv1
 rintro k l' H ⟨y,v1,c1,hy,rfl,rfl,hO,hv1⟩
 unfold zUj
 try simp only[zha,zia]
 refine zaa zSa ?_
 refine zja (fun h=>?_) (fun h=>?_)
 ·have hy0:y=0:=by omega
  subst hy0
  refine zaa (zcc (by omega) (by omega)) ?_
  refine zpa hO j (zZa hq) (v:=str l) rfl ?_
  refine zra zTh ?_
  refine zra zdz ?_
  refine zra zTh ?_
  refine zaa zrB ?_
  refine zra zdz ?_
  refine zxa hO (zwx _ _ _ _ _) ?_
  clear hO
  intro q2 H hO
  refine zcf (ys:=leN 2 l.length) (w:=true) (by rw[zqz]; exact hO) hv1 (by simp[zqz]) (by rw[zqz]; rfl) (.inr rfl) ?_
  clear hO
  intro H v2 c2 hO hv2
  refine zJs hO hv2 (by simp[zqz]; omega) ?_
  clear hO
  intro H v3 c3 hO hv3
  repeat (first|refine oi ?_|refine ow ?_|refine wy ?_|refine wn ?_|refine wt ?_|refine wf' ?_|refine cy ?_|refine cn ?_)
  exact⟨0,by omega,1,v3,c3,by omega,rfl,rfl,hO,by simpa [txB] using hv3⟩
 ·have hy0:y=1:=by omega
  subst hy0
  repeat (first|refine oi ?_|refine ow ?_|refine wy ?_|refine wn ?_|refine wt ?_|refine wf' ?_|refine cy ?_|refine cn ?_)
  exact hk H v1 c1 hO (by simpa using hv1)
def zdd(m:Mf):List Int:=if zUa m then txB m.pr++leN 8 m.ver++leN 4 m.sz.toNat++leN 2 m.ck.toNat++m.dg++m.cks.flatten else []
theorem zWu(hd:m.dg.length=32):((mfC m cv).drop 4).take 32=by8 m.dg:=by
 show (by8 m.dg++[cv]).take 32=_
 rw[List.take_append_of_le_length (by simp[hd]),List.take_of_length_le (by simp[hd])]
theorem zez(h:∀ x ∈ cks,x.length=32){y:Nat}(hy:y < cks.length):((hsC cks).drop (0+(y:Int).toNat * 32)).take 32=by8 cks[y]:=by
 rw[show 0+(y:Int).toNat * 32=y * 32+0 by omega]
 rw[zsq (f:=by8) (n:=32) (fun x hx=>by rw[zDu]; exact h x hx) hy (by omega),List.drop_zero]
 exact List.take_of_length_le (by simp[h _ (List.getElem_mem hy)])
theorem zXu:∀ (l:List (List Int)),(∀ x ∈ l,x.length=32)→l.flatten.length=l.length * 32
 | [],_=>rfl
 | a::l,h=>by
  have h1:=zXu l fun x hx=>h x (List.mem_cons_of_mem _ hx)
  have h2:=h a List.mem_cons_self
  rw[List.flatten_cons,List.length_append,h1,h2,List.length_cons]; omega
set_option maxHeartbeats 2000000 in
theorem zLs(ok:m.Ok)(hc:RdH Γ cv m.cks)(hO:St H Γ)(hk:MadeB Γ K (zdd m)):wCall P zuc [agg (mfC m cv)] H K:=by
 apply zqj; unfold zth
 have h36:=zAh (cv:=cv) ok.dl
 have hpl:=ok.pl
 have hver:=ok.ver
 rw[zud]
 refine nw hO.z ?_
 clear hO
 intro p1 H hO
 replace hO:St H (Γ++[(p1,⟨mfC m cv,true⟩)]):=hO
 refine lw hO 0 rfl (zMa ok.dl) (by omega) ?_
 refine zBj ok hc.app hO ?_
 clear hO
 intro H hO
 refine zaa zWf ?_
 unfold zdd at hk
 by_cases hr:zUa m
 ·rw[if_pos hr] at hk
  have hr':=hr
  obtain⟨_,g2,g3,g4,g5,g6,g7,_,_,g10⟩:=hr'
  rw[decide_eq_true hr]
  refine zgg rfl ?_
  refine zaa zba ?_
  refine ld hO 0 rfl (v:=str m.pr) rfl ?_
  refine zxa hO (zyA _ _) ?_
  have hlt1:p1 < H.next:=hO.lt _ (List.mem_append_right _ List.mem_cons_self)
  intro q2 H2 hO2
  refine zKs (j:=_+0) hO2 (zEa rfl) (by omega) ?_
  intro H3 v3 c3 hO3 hv3
  refine zaa zba ?_
  refine zpa hO3 (Γ.length+0) (zZa (zZa (zEa rfl))) (v:=zbb .u64 m.ver) rfl ?_
  refine⟨zWb hO2 (Γ.length+0) (zZa (zEa rfl)) hO3 (Γ.length+0) (zZa (zZa (zEa rfl))) (zrd hc.simple),zgk hlt1,?_⟩
  clear hO hO2
  replace hO3:=hO3.as.as
  refine zah (size:=8) hO3 (by rw[← List.append_assoc,← List.append_assoc]; exact hv3.rd.app') (by simp[txB,zpd,zBh]; omega) (by omega) (by omega) ?_
  clear hO3
  intro H v4 c4 hO hv4
  refine zaa zba ?_
  refine zpa hO (Γ.length+0) (zZa (zEa rfl)) (v:=int m.sz) rfl ?_
  refine zra (zRA (by omega) (by omega)) ?_
  refine zah (size:=4) hO hv4.rd.app' (by simp[txB,zpd,zBh]; omega) (by omega) (by omega) ?_
  have hO5:=hO
  clear hO
  intro H v5 c5 hO hv5
  refine zaa zba ?_
  refine zpa hO (Γ.length+0) (zZa (zZa (zEa rfl))) (v:=int m.ck) rfl ?_
  refine⟨zWb hO5 (Γ.length+0) (zZa (zEa rfl)) hO (Γ.length+0) (zZa (zZa (zEa rfl))) (zrd hc.simple),?_⟩
  refine zra (zRA (by omega) (by omega)) ?_
  refine zah (size:=2) hO hv5.rd.app' (by simp[txB,zpd,zBh]; omega) (by omega) (by omega) ?_
  clear hO hO5
  intro H v6 c6 hO hv6
  refine zaa zba ?_
  refine zaa (zdf hO (Γ.length+0) (zZa (zZa (zZa (zEa rfl)))) (by omega) (by show 0+4+32≤(mfC m cv).length; rw[zMa ok.dl]; omega)) ?_
  refine zbf hO hv6 (ys:=m.dg) (.inr ⟨p1,0+4,3,by rw[ok.dl],.inr rfl,.inr ⟨Γ.length+0,_,zZa (zZa (zEa rfl)),by rw[ok.dl]; exact zWu ok.dl⟩⟩) (by simp[txB,zpd,zBh,ok.dl]; omega) ?_
  clear hO
  intro H v7 c7 hO hv7
  refine zaa zba ?_
  refine zpa hO (Γ.length+0) (zZa (zZa (zZa (zEa rfl)))) h36 ?_
  refine zra hc.lenSl ?_
  replace hO:St H (Γ++zGb v7 c7):=St.mid (St.mid (St.mid hO))
  refine zEg (fun k l' H'=>∃ (y:Nat) (v8:Value) (c8:List Value),y≤m.cks.length∧k=m.cks.length - y∧l'=[zva,v8,cv,int m.cks.length,int y]∧St H' (Γ++zGb v8 c8)∧OwnB v8 (txB m.pr++leN 8 m.ver++leN 4 m.sz.toNat++leN 2 m.ck.toNat++m.dg++(m.cks.take y).flatten) c8) _ _ ?_ m.cks.length _ _ ⟨0,v7,c7,by omega,by omega,rfl,hO,by simpa using hv7⟩
  clear hO hv7
  rintro k l' H ⟨y,v8,c8,hy,rfl,rfl,hO,hv8⟩
  unfold zmf
  try simp only[zha,zia]
  refine zaa zSa ?_
  refine zja (fun h=>?_) (fun h=>?_)
  ·have hy:y < m.cks.length:=by omega
   obtain⟨pc,cc,jc,wc,rfl,hj⟩:=hc.pos (by omega)
   refine zaa (zcc (by omega) (by omega)) ?_
   have hcy:=ok.cl _ (List.getElem_mem hy)
   refine zCa hO jc (zZa hj) (zez ok.cl hy) (by simp[hcy]) (by omega) ?_
   rw[zDs]
   refine zyb hO ?_
   clear hO
   intro q9 H hO
   refine zLa hO (_+0) (zEa rfl) (by simp) (by simp[hcy]) (zQf _) ?_
   clear hO
   intro H hO
   replace hO:=hO.set_r
   refine zaa (zdf hO (_+0) (zEa rfl) (by omega) (by simp[hcy])) ?_
   refine zcf (ys:=m.cks[y]) hO hv8 (by
    have h1:=zXu (m.cks.take y) fun x hx=>ok.cl x (List.mem_of_mem_take hx)
    rw[List.length_take] at h1
    have:=ok.n
    simp only[List.length_append,txB,zpd,zBh,ok.dl,h1,hcy]; omega) hcy.symm (.inr rfl) ?_
   clear hO
   intro H v9 c9 hO hv9
   repeat (first|refine oi ?_|refine ow ?_|refine wy ?_|refine wn ?_|refine wt ?_|refine wf' ?_|refine cy ?_|refine cn ?_)
   refine⟨m.cks.length - (y+1),by omega,y+1,v9,c9,by omega,rfl,rfl,hO,?_⟩
   rw[zxl hy,← List.append_assoc]; exact hv9
  ·have e:y=m.cks.length:=by omega
   subst e
   rw[List.take_of_length_le (Nat.le_refl _)] at hv8
   exact hk H v8 c8 hO hv8
 ·rw[if_neg hr] at hk
  rw[decide_eq_false hr]
  refine zaf rfl ?_
  exact hk.none hO.left
end J
set_option maxRecDepth 100000
namespace J
open Go Go.Ab
variable{H:Heap}{Γ Γ0 Γ2 Δ G L:List (Nat × Blk)}{K:VH}{v w x cv dv:Value}{xs ys zs bs b key ms:List Int}{j p q o n k:Nat}{e:Int}{cs cs':List Value}{l:List UInt8}{m a:Mf}{cks:List (List Int)}
def kH:List CK:=List.replicate 32 (.i .u8)
theorem fH:flatK P 100 26=some kH:=by kernel_rfl
theorem zCB{s:List Int}(h:s.length=32):Fit kH (by8 s):=by
 have:=zEu s
 rw[h] at this; exact this
theorem neH{a b:List Int}(c:Bool)(ha:a.length=32)(hb:b.length=32):(zla P .neq 26 c).f (agg (by8 a)) (agg (by8 b))=some (.bool (decide (a≠b))):=by
 rw[ziu fH (by kernel_rfl) (by kernel_rfl) (zCB ha) (zCB hb),zAl]
 simp
def zGq(a b:Mf):Prop:=a.pr=b.pr∧a.ver=b.ver∧a.sz=b.sz∧a.ck=b.ck∧a.dg=b.dg∧a.cks=b.cks
instance (a b:Mf):Decidable (zGq a b):=by unfold zGq; exact inferInstance
theorem zYu{a b:Mf}:zGq a b↔a=b:=by
 constructor
 ·intro h
  obtain⟨p,v,s,c,d,k⟩:=a
  obtain⟨p',v',s',c',d',k'⟩:=b
  obtain⟨h1,h2,h3,h4,h5,h6⟩:=h
  cases h1; cases h2; cases h3; cases h4; cases h5; cases h6; rfl
 ·rintro rfl; exact⟨rfl,rfl,rfl,rfl,rfl,rfl⟩
theorem zZu{a b:List UInt8}:(a == b)=decide (a=b):=by
 rw[Bool.eq_iff_iff]; simp
theorem zzA{l m:List UInt8}(t:TypeId)(c:Bool):(zla P .neq t c).f (str l) (str m)=some (.bool (decide (l≠m))):=by
 rw[zYy,zZu]; simp
theorem zgp{α:Type}{a b:List α}{y:Nat}(ha:y < a.length)(hb:y < b.length):a.drop y=b.drop y↔a[y]=b[y]∧a.drop (y+1)=b.drop (y+1):=by
 rw[List.drop_eq_getElem_cons ha,List.drop_eq_getElem_cons hb,List.cons.injEq]
set_option maxHeartbeats 4000000 in
theorem zav{b:Mf}(oka:a.Ok)(okb:b.Ok)(ha:RdH Γ cv a.cks)(hb:RdH Γ dv b.cks)(hO:St H Γ)(hk:∀ H',St H' Γ→K (.bool (decide (zGq a b))) H'):wCall P zze [agg (mfC a cv),agg (mfC b dv)] H K:=by
 apply zCn; unfold zCm
 have a36:=zAh (m:=a) (cv:=cv) oka.dl
 have b36:=zAh (m:=b) (cv:=dv) okb.dl
 have hno:∀ {H:Heap} {Δ},St H (Γ++Δ)→¬ zGq a b→K (.bool false) H:=fun h hn=>by
  have:=hk _ h.left
  rw[decide_eq_false hn] at this; exact this
 rw[zud]
 refine nw hO.z ?_
 clear hO
 intro p2 H hO
 rw[zud]
 refine nw hO ?_
 clear hO
 intro p3 H hO
 replace hO:St H (Γ++[(p2,⟨mfC a cv,true⟩),(p3,⟨mfC b dv,true⟩)]):=hO
 refine zwa (fun l' H'=>l'=[ptr p2 0,ptr p3 0,.bool false]∧H=H'∧(a.pr=b.pr∧a.ver=b.ver∧a.sz=b.sz∧a.ck=b.ck∧a.dg=b.dg)∧a.cks.length=b.cks.length) ?_ ?_
 ·refine zaa zba ?_
  refine ld hO 0 rfl (v:=str a.pr) rfl ?_
  refine zaa zba ?_
  refine ld hO 1 rfl (v:=str b.pr) rfl ?_
  refine zaa (zzA _ _) ?_
  refine zja (fun h1=>?_) (fun h1=>?_)
  ·repeat (first|refine oi ?_|refine ow ?_|refine wy ?_|refine wn ?_|refine wt ?_|refine wf' ?_|refine cy ?_|refine cn ?_|refine ld hO 0 rfl rfl ?_|refine ld hO 1 rfl rfl ?_|refine ld hO 2 rfl rfl ?_|refine ld hO 3 rfl rfl ?_|refine ld hO 4 rfl rfl ?_|refine ld hO 5 rfl rfl ?_)
   exact hno hO (fun h=>h1 h.1)
  refine zaa zba ?_
  refine ld hO 0 rfl rfl ?_
  refine zaa zba ?_
  refine ld hO 1 rfl rfl ?_
  refine zaa zAc ?_
  refine zaa (zsb h1) ?_
  refine zja (fun h2=>?_) (fun h2=>?_)
  ·repeat (first|refine oi ?_|refine ow ?_|refine wy ?_|refine wn ?_|refine wt ?_|refine wf' ?_|refine cy ?_|refine cn ?_|refine ld hO 0 rfl rfl ?_|refine ld hO 1 rfl rfl ?_|refine ld hO 2 rfl rfl ?_|refine ld hO 3 rfl rfl ?_|refine ld hO 4 rfl rfl ?_|refine ld hO 5 rfl rfl ?_)
   exact hno hO (fun h=>h2 (by rw[h.2.1]))
  refine zaa zba ?_
  refine ld hO 0 rfl rfl ?_
  refine zaa zba ?_
  refine ld hO 1 rfl rfl ?_
  refine zaa zAc ?_
  refine zaa (zsb h2) ?_
  refine zja (fun h3=>?_) (fun h3=>?_)
  ·repeat (first|refine oi ?_|refine ow ?_|refine wy ?_|refine wn ?_|refine wt ?_|refine wf' ?_|refine cy ?_|refine cn ?_|refine ld hO 0 rfl rfl ?_|refine ld hO 1 rfl rfl ?_|refine ld hO 2 rfl rfl ?_|refine ld hO 3 rfl rfl ?_|refine ld hO 4 rfl rfl ?_|refine ld hO 5 rfl rfl ?_)
   exact hno hO (fun h=>h3 h.2.2.1)
  refine zaa zba ?_
  refine ld hO 0 rfl rfl ?_
  refine zaa zba ?_
  refine ld hO 1 rfl rfl ?_
  refine zaa zAc ?_
  refine zaa (zsb h3) ?_
  refine zja (fun h4=>?_) (fun h4=>?_)
  ·repeat (first|refine oi ?_|refine ow ?_|refine wy ?_|refine wn ?_|refine wt ?_|refine wf' ?_|refine cy ?_|refine cn ?_|refine ld hO 0 rfl rfl ?_|refine ld hO 1 rfl rfl ?_|refine ld hO 2 rfl rfl ?_|refine ld hO 3 rfl rfl ?_|refine ld hO 4 rfl rfl ?_|refine ld hO 5 rfl rfl ?_)
   exact hno hO (fun h=>h4 h.2.2.2.1)
  refine zaa zba ?_
  refine zCa hO (Γ.length+0) (zEa rfl) (zWu oka.dl) (by simp[oka.dl]) (by omega) ?_
  refine zaa zba ?_
  refine zCa hO (Γ.length+1) (zEa rfl) (zWu okb.dl) (by simp[okb.dl]) (by omega) ?_
  refine zaa (neH _ oka.dl okb.dl) ?_
  refine zaa (zsb h4) ?_
  refine zja (fun h5=>?_) (fun h5=>?_)
  ·repeat (first|refine oi ?_|refine ow ?_|refine wy ?_|refine wn ?_|refine wt ?_|refine wf' ?_|refine cy ?_|refine cn ?_|refine ld hO 0 rfl rfl ?_|refine ld hO 1 rfl rfl ?_|refine ld hO 2 rfl rfl ?_|refine ld hO 3 rfl rfl ?_|refine ld hO 4 rfl rfl ?_|refine ld hO 5 rfl rfl ?_)
   exact hno hO (fun h=>h5 h.2.2.2.2.1)
  refine zaa zba ?_
  refine ld hO 0 rfl a36 ?_
  refine zra ha.lenSl ?_
  refine zaa zba ?_
  refine ld hO 1 rfl b36 ?_
  refine zra hb.lenSl ?_
  refine zaa zAc ?_
  refine zaa (zsb h5) ?_
  refine zja (fun h6=>?_) (fun h6=>?_)
  ·exact hno hO (fun h=>h6 (by rw[h.2.2.2.2.2]))
  ·refine⟨rfl,rfl,⟨Classical.not_not.1 h1,by omega,Classical.not_not.1 h3,Classical.not_not.1 h4,Classical.not_not.1 h5⟩,by omega⟩
 rintro l' H' ⟨rfl,rfl,hs,hl⟩
 try simp only[zha,zia]
 refine zaa zba ?_
 refine ld hO 0 rfl a36 ?_
 refine zra ha.lenSl ?_
 have hiff:zGq a b↔a.cks.drop 0=b.cks.drop 0:=⟨fun h=>h.2.2.2.2.2,fun h=>⟨hs.1,hs.2.1,hs.2.2.1,hs.2.2.2.1,hs.2.2.2.2,h⟩⟩
 refine zoj (fun k l' H'=>∃ (y:Nat),y≤a.cks.length∧k=a.cks.length - y∧l'=[ptr p2 0,ptr p3 0,.bool false,int a.cks.length,int y]∧H=H'∧(zGq a b↔a.cks.drop y=b.cks.drop y)) _ _ ?_ a.cks.length _ _ ⟨0,by omega,by omega,rfl,rfl,hiff⟩
 rintro k l' H' ⟨y,hy,rfl,rfl,rfl,hi⟩
 unfold zvi
 try simp only[zha,zia]
 refine zaa zSa ?_
 refine zja (fun h=>?_) (fun h=>?_)
 ·have hy:y < a.cks.length:=by omega
  have hy2:y < b.cks.length:=by omega
  obtain⟨pa,ca,ja,wa,rfl,hja⟩:=ha.pos (by omega)
  obtain⟨pb,cb,jb,wb,rfl,hjb⟩:=hb.pos (by omega)
  have hca:=oka.cl _ (List.getElem_mem hy)
  have hcb:=okb.cl _ (List.getElem_mem hy2)
  refine zaa zba ?_
  refine ld hO 0 rfl a36 ?_
  refine zaa (zcc (by omega) (by omega)) ?_
  refine zCa hO ja (zZa hja) (zez oka.cl hy) (by simp[hca]) (by omega) ?_
  refine zaa zba ?_
  refine ld hO 1 rfl b36 ?_
  refine zaa (zcc (by omega) (by omega)) ?_
  refine zCa hO jb (zZa hjb) (zez okb.cl hy2) (by simp[hcb]) (by omega) ?_
  refine zaa (neH _ hca hcb) ?_
  rw[zgp hy hy2] at hi
  refine zja (fun h7=>?_) (fun h7=>?_)
  ·exact hno hO (fun h=>h7 (hi.1 h).1)
  ·have hn:=oka.n
   refine zaa qa ?_
   refine⟨a.cks.length - (y+1),by omega,y+1,by omega,rfl,rfl,(by first|rfl|trivial),?_⟩
   rw[hi]
   exact⟨fun h=>h.2,fun h=>⟨Classical.not_not.1 h7,h⟩⟩
 ·have e:y=a.cks.length:=by omega
  subst e
  rw[List.drop_of_length_le (Nat.le_refl _),List.drop_of_length_le (by omega)] at hi
  refine zhb rfl ?_
  have:=hk _ hO.left
  rw[decide_eq_true (hi.2 rfl)] at this; exact this
def zvv(xs:List Int)(e:Int):Int:=if e=0∧0 < xs.length then 52 else e
theorem zbv(hO:St H Γ)(hj:Γ[j]?=some (p,rdr v e))(hv:RdB Γ v xs)(hk:K (int (zvv xs e)) H):wCall P znd [ptr p 0] H K:=by
 apply zGi; unfold zFg
 refine zaa zna ?_
 refine zaa zba ?_
 refine zpa hO j hj rfl ?_
 refine zaa zNd ?_
 unfold zvv at hk
 refine zja (fun h=>?_) (fun h=>?_)
 ·refine zaa zna ?_
  refine zaa zba ?_
  refine zpa hO j hj rfl ?_
  refine zra hv.lenSl ?_
  repeat (first|refine oi ?_|refine ow ?_|refine wy ?_|refine wn ?_|refine wt ?_|refine wf' ?_|refine cy ?_|refine cn ?_)
  refine zja (fun h2=>?_) (fun h2=>?_)
  ·rw[if_pos ⟨h,by omega⟩] at hk
   exact hk
  ·rw[if_neg (by omega)] at hk
   refine zaa zna ?_
   refine zaa zba ?_
   refine zpa hO j hj rfl ?_
   exact hk
 ·repeat (first|refine oi ?_|refine ow ?_|refine wy ?_|refine wn ?_|refine wt ?_|refine wf' ?_|refine cy ?_|refine cn ?_)
  rw[if_neg (fun h'=>h h'.1)] at hk
  refine zpa hO j hj rfl ?_
  exact hk
end J
set_option maxRecDepth 100000
namespace J
open Go Go.Ab
variable{H:Heap}{Γ Γ0 Γ2 Δ G L:List (Nat × Blk)}{K:VH}{v w x cv dv:Value}{xs ys zs bs b key ms:List Int}{j p q o n k mx:Nat}{e:Int}{cs cs':List Value}{l:List UInt8}{m a:Mf}{cks:List (List Int)}
def ob(xs:List Int):List UInt8:=xs.map fun n=>UInt8.ofNat n.toNat
theorem zsB(l:List UInt8):ob (ub l)=l:=by
 unfold ob ub
 rw[List.map_map]
 conv=>rhs; rw[← List.map_id l]
 refine List.map_congr_left fun b _=>?_
 show UInt8.ofNat ((b.toNat:Int)).toNat=b
 rw[Int.toNat_natCast]
 exact UInt8.ofNat_toNat
def tN(xs:List Int)(e:Int):Nat:=leV (tkB xs e 2)
def tYb(xs:List Int)(e:Int):List Int:=tkB (tkR xs e 2) (tkE xs e 2) (tN xs e)
def tYr(xs:List Int)(e:Int):List Int:=tkR (tkR xs e 2) (tkE xs e 2) (tN xs e)
def tYe(xs:List Int)(e:Int):Int:=tkE (tkR xs e 2) (tkE xs e 2) (tN xs e)
def zax(xs:List Int)(e:Int)(mx:Nat):Prop:=tkE xs e 2=0∧mx < tN xs e
instance (xs:List Int) (e:Int) (mx:Nat):Decidable (zax xs e mx):=by unfold zax; exact inferInstance
def tXb(xs:List Int)(e:Int)(mx:Nat):List Int:=if zax xs e mx then [] else tYb xs e
def tXr(xs:List Int)(e:Int)(mx:Nat):List Int:=if zax xs e mx then [] else tYr xs e
def tXe(xs:List Int)(e:Int)(mx:Nat):Int:=if zax xs e mx then 52 else tYe xs e
theorem zAA(hb:By xs)(e:Int)(n:Nat):By (tkB xs e n):=RdB.bytes hb n e
theorem zhp(hb:By xs)(e:Int)(n:Nat):By (tkR xs e n):=by
 unfold tkR
 split
 ·exact fun x hx=>hb x (List.mem_of_mem_drop hx)
 ·intro x hx; cases hx
theorem zLl(xs:List Int)(e:Int)(n:Nat):(tkR xs e n).length≤xs.length:=by
 unfold tkR
 split
 ·rw[List.length_drop]; omega
 ·simp
theorem zCx{k:Nat}(hb:By xs)(e:Int):leV (tkB xs e k) < 256 ^ k:=by
 have h1:=zzr (tkB xs e k) (zAA hb e k)
 have h2:=zKn xs e k
 exact Nat.lt_of_lt_of_le h1 (Nat.pow_le_pow_right (by omega) h2)
theorem ztB(hb:By xs)(e:Int):tN xs e < 65536:=zCx hb e
theorem Inh.trans{v1 v2 v3:Value}{x1 x2 x3:List Int}(h1:Inh v1 x1 v2 x2)(h2:Inh v2 x2 v3 x3):Inh v1 x1 v3 x3:=fun Γ h=>h2 Γ (h1 Γ h)
set_option maxHeartbeats 2000000 in
theorem zMs(hO:St H Γ)(hj:Γ[j]?=some (p,rdr v e))(hv:RdB Γ v xs)(hb:By xs)(hx:xs.length≤1000000)
  (hk:∀ H' v2,St H' (Γ.set j (p,rdr v2 (tXe xs e mx)))→Inh v xs v2 (tXr xs e mx)→K (str (ob (tXb xs e mx))) H'):wCall P zUc [ptr p 0,int mx] H K:=by
 apply zNh; unfold zZf
 have hn:=ztB hb e
 refine zne (k:=2) (by omega) hO hj hv hb ?_
 clear hO
 intro H v1 hO i1
 have hj1:=zBu (y:=(p,rdr v1 (tkE xs e 2))) hj
 have hv1:=i1 _ (zwr (b':=rdr v1 (tkE xs e 2)) (p':=p) hv hj (RdB.shape hv))
 rw[show leV (tkB xs e 2)=tN xs e from rfl]
 refine zra (zpz (k:=.u64) (by omega)) ?_
 refine zwa (fun l' H'=>l'=[ptr p 0,int (tN xs e),.bool (decide (zax xs e mx))]∧H=H') ?_ ?_
 ·refine zaa zna ?_
  refine zaa zba ?_
  refine zpa hO j hj1 (v:=int (tkE xs e 2)) rfl ?_
  refine zaa zNd ?_
  refine zja (fun h=>?_) (fun h=>?_)
  ·refine zaa zPc ?_
   refine zaa (zSc h) ?_
   exact⟨by rw[decide_eq_decide.2 (show ((mx:Int) < (tN xs e:Int))↔zax xs e mx from⟨fun h2=>⟨h,by omega⟩,fun h2=>by have:=h2.2; omega⟩)],rfl⟩
  ·refine zaa (zsb h) ?_
   exact⟨by rw[decide_eq_false (show ¬ zax xs e mx from fun h2=>h h2.1)],rfl⟩
 rintro l' H' ⟨rfl,rfl⟩
 try simp only[zha,zia]
 unfold tXe tXr tXb at hk
 refine zja (fun h=>?_) (fun h=>?_)
 ·simp only[if_pos h] at hk
  refine zap hO hj1 ?_
  clear hO
  intro H hO
  rw[List.set_set,if_pos h.1] at hO
  refine zMi (xs:=[]) hO (zBu hj) .nil (by omega) ?_
  clear hO
  intro H v3 v4 hO i3 i4
  rw[List.set_set] at hO
  have e1:tkE [] 52 (tN xs e)=52:=by unfold tkE; rw[if_neg (by omega),if_neg (by omega)]
  have e2:tkR [] 52 (tN xs e)=[]:=by unfold tkR; rw[if_neg (by omega)]
  have e3:tkB [] 52 (tN xs e)=[]:=by unfold tkB; rw[if_neg (by omega)]
  rw[e1] at hO
  rw[e2] at i4
  rw[e3] at i3
  refine zra (RdB.str hO (i3 _ .nil)) ?_
  exact hk H v4 hO (fun Γ _=>i4 Γ .nil)
 ·simp only[if_neg h] at hk
  refine zMi hO hj1 hv1 (by omega) ?_
  clear hO
  intro H v3 v4 hO i3 i4
  rw[List.set_set] at hO
  refine zra (RdB.str hO (i3 _ (i1 _ (zwr (b':=rdr v4 (tYe xs e)) (p':=p) hv hj (RdB.shape hv))))) ?_
  exact hk H v4 hO (i1.trans i4)
def z32:List Int:=List.replicate 32 0
def hsh(xs:List Int)(e:Int):List Int:=if e=0∧32≤xs.length then xs.take 32 else z32
theorem zRe:(hsh xs e).length=32:=by
 unfold hsh
 split
 ·rw[List.length_take]; omega
 ·rfl
theorem zDx(hb:By xs):By (hsh xs e):=by
 unfold hsh
 split
 ·exact fun x hx=>hb x (List.mem_of_mem_take hx)
 ·exact zNm
theorem zcH:zc P 26=by8 z32:=by kernel_rfl
theorem zbx:(by8 z32).take 0++(by8 (tkB xs e 32)++(by8 z32).drop (0+(tkB xs e 32).length))=by8 (hsh xs e):=by
 unfold hsh tkB
 split
 ·rename_i h
  rw[List.drop_of_length_le (by simp[z32]; omega)]
  simp
 ·show []++([]++(by8 z32).drop 0)=_
  simp
set_option maxHeartbeats 1000000 in
theorem zjp(hO:St H Γ)(hj:Γ[j]?=some (p,rdr v e))(hv:RdB Γ v xs)(hx:xs.length≤1000000)
  (hk:∀ H' v2,St H' (Γ.set j (p,rdr v2 (tkE xs e 32)))→Inh v xs v2 (tkR xs e 32)→K (agg (by8 (hsh xs e))) H'):wCall P zVc [ptr p 0] H K:=by
 apply zck; unfold zFi
 have hjl:=(List.getElem?_eq_some_iff.1 hj).1
 rw[zcH]
 refine nw hO.z ?_
 clear hO
 intro p2 H hO
 refine nw hO ?_
 clear hO
 intro p3 H hO
 replace hO:St H (Γ++[(p2,⟨by8 z32,true⟩),(p3,⟨by8 z32,true⟩)]):=hO
 refine zaa (sar hO 1 rfl (by simp[z32]) (by omega)) ?_
 refine zCu (n:=32) hO (zZa hj) hv.app (by omega) hx ?_
 intro H1 v2 v' c' hO1 i2 o'
 rw[show rdN (Γ++[(p2,(⟨by8 z32,true⟩:Blk)),(p3,⟨by8 z32,true⟩)]) j p xs e 32 v2=Γ.set j (p,rdr v2 (tkE xs e 32))++[(p2,⟨by8 z32,true⟩),(p3,⟨by8 z32,true⟩)] from List.set_append_left _ _ hjl] at hO1
 refine⟨zWb hO (Γ.length+1) (zEa rfl) hO1 ((Γ.set j (p,rdr v2 (tkE xs e 32))).length+1) (zZa (zEa rfl)) (zbh _),?_⟩
 clear hO
 replace hk:=hk (v2:=v2)
 generalize Γ.set j (p,rdr v2 (tkE xs e 32))=Γ at *
 have htl:=zKn xs e 32
 refine zAq hO1 (i:=Γ.length+1) (zZa (zEa rfl)) (ys:=tkB xs e 32) o'.rd.app' htl (by simp[z32]) ?_
 clear hO1
 intro H hO
 rw[List.set_append_left _ _ (by simp),Go.Ab.set_r,zbx] at hO
 replace hO:St H (Γ++[(p2,⟨by8 z32,true⟩),(p3,⟨by8 (hsh xs e),true⟩)]):=hO.left
 refine lw hO 1 rfl (by simp[zRe]) (by omega) ?_
 refine sw hO 0 rfl (by simp[z32]) (by simp[zRe]) (zQf _) ?_
 clear hO
 intro H hO
 refine lw hO 0 rfl (by simp[zRe]) (by omega) ?_
 exact hk H hO.left i2
end J
