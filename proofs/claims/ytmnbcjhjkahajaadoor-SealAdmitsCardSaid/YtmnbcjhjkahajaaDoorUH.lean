/- texts of the proof, one behind the other -/
import Derived.Lib.RuneBytes
import Derived.Shelf.Unicode.CaseLaid
import Derived.Test.YtmnbcjhjkahajaaDoorUG
set_option linter.unusedVariables false
set_option linter.unusedSimpArgs false
set_option linter.unusedSectionVars false
set_option maxRecDepth 100000
namespace J
open Go Go.Ab
variable{H:Heap}{Γ Γ0 Γ2 Δ G L:List (Nat × Blk)}{K:VH}{v w x:Value}{xs ys zs bs b key ms:List Int}{j p q o n k:Nat}{e:Int}{cs cs':List Value}{l m:List UInt8}{ds:List (List UInt8)}
def Rn(n:Int):Prop:=0≤n∧n≤1114111∧(n < 55296∨57343 < n)
def zqv(x:Go.Lib.CaseRow):Bool:=
 if x.delta 1 > 1114111 then decide ((x.2.1:Int)+1≤1114111∧((x.2.1:Int)+1 < 55296∨57343 < (x.1:Int)))
 else decide (0≤(x.1:Int)+x.delta 1∧(x.2.1:Int)+x.delta 1≤1114111∧((x.2.1:Int)+x.delta 1 < 55296∨57343 < (x.1:Int)+x.delta 1))
theorem zrv:Go.Lib.caseT.all zqv=true:=by kernel_rfl
theorem zJq(T:Array Go.Lib.CaseRow)(r:Int):∀ (f lo hi i:Nat),Go.Lib.lookupIdx T r f lo hi=some i→hi≤T.size→i < T.size∧((T.getD i (0,0,0,0,0)).1:Int)≤r∧r≤((T.getD i (0,0,0,0,0)).2.1:Int)
 | 0,lo,hi,i,h,_=>by cases h
 | f+1,lo,hi,i,h,hh=>by
  unfold Go.Lib.lookupIdx at h
  split at h
  ·split at h
   ·rename_i h1 h2
    obtain rfl:=Option.some.inj h
    exact⟨by omega,h2⟩
   ·split at h
    ·exact zJq T r f _ _ i h (by omega)
    ·exact zJq T r f _ _ i h hh
  ·cases h
theorem zJx{n:Int}(h:Rn n):Rn (Go.Lib.toLowerU n):=by
 unfold Go.Lib.toLowerU
 split
 ·split
  ·unfold Rn at *; omega
  ·exact h
 ·rename_i h1
  unfold Go.Lib.toR Go.Lib.lookupGo
  cases hl:Go.Lib.lookupIdx Go.Lib.caseA n (Go.Lib.caseA.size+1) 0 Go.Lib.caseA.size with
  | none=>exact h
  | some i=>
   show Rn (Go.Lib.convertR 1 n (Go.Lib.caseA.getD i (0,0,0,0,0)))
   obtain⟨hi,h2,h3⟩:=zJq _ _ _ _ _ _ hl (Nat.le_refl _)
   have hg:=List.all_eq_true.1 zrv (Go.Lib.caseA[i]'hi) (by
    have:=Array.getElem_mem hi
    rw[← Array.mem_toList_iff] at this
    exact this)
   have e:Go.Lib.caseA.getD i (0,0,0,0,0)=Go.Lib.caseA[i]'hi:=by
    unfold Array.getD; rw[dif_pos hi]; rfl
   rw[e] at h2 h3 ⊢
   generalize Go.Lib.caseA[i]'hi=y at *
   unfold zqv at hg
   unfold Go.Lib.convertR Rn at *
   split at hg
   ·rename_i hd
    rw[if_pos hd]
    have hg:=of_decide_eq_true hg
    show 0≤(y.1:Int)+((n - y.1) - (n - y.1) % 2+((1:Nat):Int))∧_
    omega
   ·rename_i hd
    rw[if_neg hd]
    have hg:=of_decide_eq_true hg
    omega
def zYA(n:Nat):Nat:=(Go.Lib.toLowerU n).toNat
theorem zKq{n:Nat}(h:Rn n):Go.Lib.toLowerU n=zYA n:=(Int.toNat_of_nonneg (zJx h).1).symm
theorem zsv{n:Nat}(h:Rn n):Rn (zYA n):=by rw[← zKq h]; exact zJx h
def zKx(n:Nat):List Int:=
 if n < 128 then [((n:Nat):Int)]
 else if n < 2048 then [((192+n / 64:Nat):Int),((128+n % 64:Nat):Int)]
 else if n < 65536 then [((224+n / 4096:Nat):Int),((128+n / 64 % 64:Nat):Int),((128+n % 64:Nat):Int)]
 else [((240+n / 262144:Nat):Int),((128+n / 4096 % 64:Nat):Int),((128+n / 64 % 64:Nat):Int),((128+n % 64:Nat):Int)]
theorem ziz{n:Nat}(h:Rn n):Go.Lib.encodeRune n=ob (zKx n):=by
 obtain⟨h0,h1,h2⟩:=h
 have e:∀ x:Int,x.toNat.toUInt8=UInt8.ofNat x.toNat:=fun _=>rfl
 unfold Go.Lib.encodeRune ob zKx
 congr 1
 split
 ·rw[Go.Lib.encodeRuneZ_one (by omega) (by omega)]
 split
 ·rw[Go.Lib.encodeRuneZ_two (by omega) (by omega)]
  congr 1
 split
 ·rw[Go.Lib.encodeRuneZ_three (by omega)]
  congr 1
 ·rw[Go.Lib.encodeRuneZ_four (by omega) (by omega)]
  congr 1
theorem zgx(n:Nat):(zKx n).length≤4:=by
 unfold zKx
 repeat' split
 all_goals simp
theorem zFA(xs:List Int):(ob xs).length=xs.length:=by simp[ob]
theorem zSs{t:TypeId}{c:Bool}{a b:Nat}(hb:0 < b):(zla P .rem t c).f (int a) (int b)=some (int ((a % b:Nat):Int)):=zsw (k:=.i64) hb
theorem zVn{t:TypeId}{c:Bool}{a b:Nat}(h:a+b≤9223372036854775807):(zla P .add t c).f (int a) (int b)=some (int ((a+b:Nat):Int)):=by
 rw[zZd (by omega) (by omega)]; rfl
theorem zku{a:Nat}(h:a < 256):zmb .u8 (int a) H=some (.int .u8 ((a:Nat):Int),H):=by rw[zdz,Nat.mod_eq_of_lt h]
theorem zOB(a b c:Int)(H:Heap):(zea P 22 3).f [(0,.int .u8 a),(1,.int .u8 b),(2,.int .u8 c)] H=some (sl H.next 0 3 3,H.push (by8 [a,b,c])):=by kernel_rfl
theorem zZA(a b c d:Int)(H:Heap):(zea P 22 4).f [(0,.int .u8 a),(1,.int .u8 b),(2,.int .u8 c),(3,.int .u8 d)] H=some (sl H.next 0 4 3,H.push (by8 [a,b,c,d])):=by kernel_rfl
theorem zWn{H:Heap}{q p n:Nat}{K:VH}(hO:St H ((Γ++zGb (sl q 0 0 3) [])++[(p,⟨by8 ys,true⟩)]))(hn:n=ys.length)(hl:ys.length≤4)(hk:∀ H',St H' Γ→K (str (ob ys)) H') :
  opW (zoa 1 1 (sl q 0 0 3) (sl p 0 n 3) H) fun v H=>opW (zVa v H) fun s H=>K s H:=by
 refine zcf (xs:=[]) hO (.inr ⟨q,.inr ⟨rfl,rfl⟩,rfl,Nat.le_refl _,rfl⟩) (by show 0+_≤_; omega) hn (.inr rfl) ?_
 clear hO
 intro H v c hO hv
 refine zra (RdB.str hO hv.rd.app') ?_
 exact hk H hO.left
set_option maxHeartbeats 2000000 in
theorem zhx(hn:n≤1114111)(hO:St H Γ)(hk:∀ H',St H' Γ→K (str (ob (zKx n))) H'):wCall P zLh [int n] H K:=by
 apply zXo; unfold zWo
 refine zxa hO (zux _) ?_
 clear hO
 intro q H hO
 unfold zKx at hk
 refine zaa zSa ?_
 refine zja (fun h=>?_) (fun h=>?_)
 ·rw[if_pos (by omega)] at hk
  refine zra (zku (by omega)) ?_
  refine zxa hO (zvx _ _ _) ?_
  clear hO
  intro p H hO
  exact zWn hO rfl (by simp) hk
 rw[if_neg (by omega)] at hk
 refine zaa zSa ?_
 refine zja (fun h=>?_) (fun h=>?_)
 ·rw[if_pos (by omega)] at hk
  refine zaa (zdp (b:=64) (by omega) (by omega)) ?_
  refine zaa (zVn (a:=192) (by omega)) ?_
  refine zra (zku (by omega)) ?_
  refine zaa (zSs (b:=64) (by omega)) ?_
  refine zaa (zVn (a:=128) (by omega)) ?_
  refine zra (zku (by omega)) ?_
  refine zxa hO (zwx _ _ _ _ _) ?_
  clear hO
  intro p H hO
  exact zWn hO rfl (by simp) hk
 rw[if_neg (by omega)] at hk
 refine zaa zSa ?_
 refine zja (fun h=>?_) (fun h=>?_)
 ·rw[if_pos (by omega)] at hk
  refine zaa (zdp (b:=4096) (by omega) (by omega)) ?_
  refine zaa (zVn (a:=224) (by omega)) ?_
  refine zra (zku (by omega)) ?_
  refine zaa (zdp (b:=64) (by omega) (by omega)) ?_
  refine zaa (zSs (b:=64) (by omega)) ?_
  refine zaa (zVn (a:=128) (by omega)) ?_
  refine zra (zku (by omega)) ?_
  refine zaa (zSs (b:=64) (by omega)) ?_
  refine zaa (zVn (a:=128) (by omega)) ?_
  refine zra (zku (by omega)) ?_
  refine zxa hO (zOB _ _ _ _) ?_
  clear hO
  intro p H hO
  exact zWn hO rfl (by simp) hk
 ·rw[if_neg (by omega)] at hk
  refine zaa (zdp (b:=262144) (by omega) (by omega)) ?_
  refine zaa (zVn (a:=240) (by omega)) ?_
  refine zra (zku (by omega)) ?_
  refine zaa (zdp (b:=4096) (by omega) (by omega)) ?_
  refine zaa (zSs (b:=64) (by omega)) ?_
  refine zaa (zVn (a:=128) (by omega)) ?_
  refine zra (zku (by omega)) ?_
  refine zaa (zdp (b:=64) (by omega) (by omega)) ?_
  refine zaa (zSs (b:=64) (by omega)) ?_
  refine zaa (zVn (a:=128) (by omega)) ?_
  refine zra (zku (by omega)) ?_
  refine zaa (zSs (b:=64) (by omega)) ?_
  refine zaa (zVn (a:=128) (by omega)) ?_
  refine zra (zku (by omega)) ?_
  refine zxa hO (zZA _ _ _ _ _) ?_
  clear hO
  intro p H hO
  exact zWn hO rfl (by simp) hk
end J
set_option maxRecDepth 100000
namespace J
open Go Go.Ab
variable{H:Heap}{Γ Γ0 Γ2 Δ G L:List (Nat × Blk)}{K:VH}{v w x cv dv:Value}{xs ys zs bs b key ms:List Int}{j p q o n k:Nat}{e:Int}{cs cs':List Value}{l m:List UInt8}{ds:List (List UInt8)}
theorem zLq{size n0 least:Nat}{r:Nat × Nat}(h:zvp l size n0 least=some r):Rn r.1:=by
 unfold zvp at h
 split at h
 ·cases h
 ·split at h
  ·split at h
   ·cases h
   ·cases h; unfold Rn; simp only; omega
  ·cases h
theorem zGA{r:Nat × Nat}(h:o4 l=some r):Rn r.1:=by
 have:=zig l 0
 unfold o4 at h
 split at h
 ·cases h; unfold Rn; simp only; omega
 split at h
 ·exact zLq h
 split at h
 ·exact zLq h
 split at h
 ·exact zLq h
 ·cases h
def fR(s:List UInt8):List UInt8:=match o4 s with
 | none=>s.take 1
 | some r=>ob (zKx (zYA r.1))
def f4(ds:List (List UInt8)):List UInt8:=ds.flatMap fR
def zEc(l:List UInt8):List UInt8:=f4 (zYn l)
theorem zLx(s:List UInt8):(fR s).length≤4:=by
 unfold fR
 split
 ·rw[List.length_take]; omega
 ·rw[zFA]; exact zgx _
theorem zMx:∀ ds:List (List UInt8),(f4 ds).length≤4 * ds.length
 | []=>Nat.le_refl _
 | a::ds=>by
  have h1:=zMx ds
  have h2:=zLx a
  show (fR a++f4 ds).length≤_
  rw[List.length_append,List.length_cons]; omega
theorem ztv{y:Nat}(hy:y < ds.length):f4 (ds.take (y+1))=f4 (ds.take y)++fR ds[y]:=by
 rw[List.take_add_one,List.getElem?_eq_getElem hy]
 show List.flatMap fR (_++[ds[y]])=_
 rw[List.flatMap_append]
 show f4 _++(fR ds[y]++[])=_
 rw[List.append_nil]
theorem fr3(s:List UInt8):∃ (n:Nat) (bt:List UInt8) (br:Bool),zqe s=[int n,str bt,.bool br]∧n≤1114111∧(br=true→fR s=bt)∧(br=false→Rn n∧fR s=ob (zKx (zYA n))):=by
 cases h:o4 s with
 | none=>exact⟨cb s 0,s.take 1,true,by unfold zqe; rw[h],by have:=zig s 0; omega,fun _=>by unfold fR; rw[h],fun h=>by cases h⟩
 | some r=>exact⟨r.1,s.take r.2,false,by unfold zqe; rw[h],zsA h,fun h=>(by cases h),fun _=>⟨zGA h,by unfold fR; rw[h]⟩⟩
theorem zwB{n:Nat}(h:n < 2147483648):zmb .i64 (.int .i32 (n:Int)) H=some (int n,H):=by
 show some (Value.int .i64 (zBb .i64 (n:Int)),H)=_
 rw[zel (by omega) (by omega)]
set_option maxHeartbeats 4000000 in
theorem zop(hl:l.length≤1000000)(hO:St H Γ)(hk:∀ H',St H' Γ→K (str (zEc l)) H'):wCall P zzd [str l] H K:=by
 apply zGn; unfold zIm
 refine zOm hl hO ?_
 clear hO
 intro H v hO hv
 have hsl:(zYn l).length≤l.length:=zTn _ _
 unfold zEc at hk
 generalize zYn l=ds at *
 refine zra hv.lenSl ?_
 refine ztj (fun k l' H'=>∃ (y:Nat),y≤ds.length∧k=ds.length - y∧l'=[str [],str (f4 (ds.take y)),v,int ds.length,int y]∧St H' (Γ++zGb v (rnC ds))) _ _ ?_ ds.length _ _ ⟨0,by omega,by omega,rfl,hO⟩
 clear hO
 rintro k l' H ⟨y,hy,rfl,rfl,hO⟩
 unfold zAi
 try simp only[zha,zia]
 refine zaa zSa ?_
 refine zja (fun h=>?_) (fun h=>?_)
 ·have hy:y < ds.length:=by omega
  obtain⟨pv,cv,rfl,hΓ⟩:∃ pv cv,v=sl pv 0 ds.length cv∧zGb v (rnC ds)=[(pv,⟨rnC ds,true⟩)]:=by
   rcases hv with⟨_,h0,_⟩|⟨pv,rfl|rfl,_⟩
   ·omega
   ·exact⟨pv,_,rfl,rfl⟩
   ·exact⟨pv,_,rfl,rfl⟩
  rw[hΓ] at hO
  obtain⟨n,bt,br,r1,hn,r2,r3⟩:=fr3 ds[y]
  have hcells:=zsq (f:=zqe) (n:=3) (l:=ds) (i:=y) (o:=0) (m:=3) (fun x _=>(zJl x).2) hy (by omega)
  rw[r1] at hcells
  have hlen:=zMx (ds.take y)
  have hlr:=zLx ds[y]
  rw[List.length_take] at hlen
  refine zaa (zcc (by omega) (by omega)) ?_
  refine zCa hO (Γ.length+0) (zEa rfl) (show _=[int n,str bt,.bool br] from by rw[show 0+(y:Int).toNat * 3=y * 3+0 by omega]; exact hcells) rfl (by omega) ?_
  rw[zEr]
  refine nw hO ?_
  clear hO
  intro p5 H hO
  refine sw hO 1 rfl rfl rfl rfl ?_
  clear hO
  intro H hO
  replace hO:St H (Γ++[(pv,⟨rnC ds,true⟩),(p5,⟨[int n,str bt,.bool br],true⟩)]):=hO
  refine zaa zba ?_
  refine ld hO 1 rfl (v:=.bool br) rfl ?_
  cases br with
  | true=>
   refine zaf rfl ?_
   refine zaa zba ?_
   refine ld hO 1 rfl (v:=str bt) rfl ?_
   rw[r2 rfl] at hlr
   refine zaa (zpv _ _ _ _ (by omega)) ?_
   refine zaa (zZd (by omega) (by omega)) ?_
   refine⟨ds.length - (y+1),by omega,y+1,by omega,rfl,?_,?_⟩
   ·rw[ztv hy,r2 rfl]; rfl
   ·rw[hΓ]; exact zzq (A:=[(pv,⟨rnC ds,true⟩)]) hO
  | false=>
   obtain⟨hrn,r3⟩:=r3 rfl
   have hlow:=zsv hrn
   rw[r3] at hlr
   refine zgg rfl ?_
   refine zaa zba ?_
   refine ld hO 1 rfl (v:=int n) rfl ?_
   refine zra (zrA (by omega) (by omega)) ?_
   refine zss ?_
   rw[zKq hrn]
   refine zra (zwB (by unfold Rn at hlow; omega)) ?_
   refine zhx (by unfold Rn at hlow; omega) hO ?_
   clear hO
   intro H hO
   refine zaa (zpv _ _ _ _ (by omega)) ?_
   refine zaa (zZd (by omega) (by omega)) ?_
   refine⟨ds.length - (y+1),by omega,y+1,by omega,rfl,?_,?_⟩
   ·rw[ztv hy,r3]; rfl
   ·rw[hΓ]; exact zzq (A:=[(pv,⟨rnC ds,true⟩)]) hO
 ·have e:y=ds.length:=by omega
  subst e
  rw[List.take_of_length_le (Nat.le_refl _)]
  refine zhb rfl ?_
  try simp only[zha,zia]
  exact hk _ hO.left
theorem zHA(l:List UInt8)(pos:Nat)(hp:pos < l.length):(Seal.foldR (bsl l) pos=fR (l.drop pos))∧(Utf8.decode (bsl l) pos).2=wid (l.drop pos):=by
 refine⟨?_,(zVu l pos 0 hp).2⟩
 have hne:l.drop pos≠[]:=by
  intro h
  have:=congrArg List.length h
  simp at this
  omega
 have hx:(bsl l).extract pos (bsl l).size=bsl (l.drop pos):=by
  apply ByteArray.ext
  apply Array.ext'
  show _=l.drop pos
  rw[ByteArray.data_extract,Array.toList_extract]
  simp only[List.extract,zFe]
  exact List.take_of_length_le (by simp)
 have ht:=Go.Lib.tail_decode (bsl l) pos 0
 rw[hx,Nat.add_zero] at ht
 obtain⟨d0,d1⟩:=zyx hne
 have hgo:Go.Lib.decodeGo (bsl (l.drop pos))=Utf8.decode (bsl (l.drop pos)) 0:=by
  unfold Go.Lib.decodeGo
  rw[if_neg (by rw[zFe]; intro h; exact hne (List.length_eq_zero_iff.1 h))]
 have hg:[(bsl l).get! pos]=(l.drop pos).take 1:=by
  have h1:(bsl l).get! pos=l[pos]:=by
   show (l.toArray)[pos]! = _
   rw[getElem!_pos _ _ (by simpa using hp)]; simp
  rw[h1,List.drop_eq_getElem_cons hp]; rfl
 unfold Seal.foldR Seal.brF
 rw[hx,hgo,← ht]
 cases ho:o4 (l.drop pos) with
 | none=>
  rw[d0 ho]
  rw[if_pos (by simp)]
  unfold fR
  rw[ho,hg]
 | some r=>
  rw[d1 r ho]
  have hfd:=zuA ho
  have hrn:=zGA ho
  rw[decide_eq_false (show ¬ ((r.1:Int)=65533∧r.2=1) by omega),if_neg (by simp)]
  unfold fR
  rw[ho,zKq hrn]
  exact ziz (zsv hrn)
theorem zLr(l:List UInt8):∀ (b pos:Nat),pos≤l.length→Seal.foldG (bsl l) b pos=f4 (zfp b (l.drop pos))
 | 0,pos,_=>rfl
 | b+1,pos,hp=>by
  unfold Seal.foldG zfp
  by_cases h:pos < l.length
  ·obtain⟨h1,h2⟩:=zHA l pos h
   have hne:l.drop pos≠[]:=by
    intro h
    have:=congrArg List.length h
    simp at this
    omega
   have hw:=zSn hne
   rw[List.length_drop] at hw
   rw[if_pos (show pos < (bsl l).size from h),if_neg hne,h1,h2,zLr l b (pos+wid (l.drop pos)) (by omega),List.drop_drop]
   rfl
  ·have hnil:l.drop pos=[]:=List.drop_of_length_le (by omega)
   rw[if_neg (show ¬ pos < (bsl l).size from h),if_pos hnil]
   rfl
theorem zjz(l:List UInt8):Seal.foldF (bsl l)=bsl (zEc l):=by
 have:=zLr l l.length 0 (Nat.zero_le _)
 rw[List.drop_zero] at this
 show (⟨(Seal.foldG (bsl l) l.length 0).toArray⟩:ByteArray)=_
 rw[this]; rfl
theorem zpp(hl:l.length≤1000000)(hk:K (str (zEc l)) H):wCall P zBe [str l] H K:=by
 refine zkl (s:=bsl l) (by rw[zFe]; omega) ?_
 rw[zjz]; exact hk
theorem zTs(hl:l.length≤1000000)(hm:m.length≤1000000)(hk:K (.bool (zEc l == zEc m)) H):wCall P zxg [str l,str m] H K:=by
 apply zFn; unfold zHm
 refine zpp hl ?_
 refine zpp hm ?_
 refine zaa (show _=some (.bool (zEc l == zEc m)) from rfl) ?_
 exact hk
structure Tm where
 pr:List UInt8
 fl:Nat
 rm:Int
def tmC(t:Tm):List Value:=[str t.pr,zbb .u64 t.fl,int t.rm]
def zwp(m:Mf)(t:Tm):Int:=if ¬ zUa m then 131 else if zEc m.pr≠zEc t.pr then 143 else if m.ver < t.fl then 144 else if m.sz > t.rm then 145 else 0
theorem zXn{t:Tm}:zsa (agg (tmC t))=tmC t:=rfl
theorem zzk{k:IntKind}{t:TypeId}{c:Bool}{a b:Nat}:(zla P .lss t c).f (zbb k a) (zbb k b)=some (.bool (decide (a < b))):=by
 rw[zSa]
 rw[decide_eq_decide.2 (show ((a:Int) < (b:Int))↔a < b by omega)]
set_option maxHeartbeats 4000000 in
theorem zdc{m:Mf}{t:Tm}(ok:m.Ok)(hc:RdH Γ cv m.cks)(ht:t.pr.length≤1000000)(hO:St H Γ)(hk:∀ H',St H' Γ→K (int (zwp m t)) H'):wCall P zab [agg (mfC m cv),agg (tmC t)] H K:=by
 apply zDn; unfold zDm
 have h36:=zAh (cv:=cv) ok.dl
 have hpl:=ok.pl
 unfold zwp at hk
 rw[zud,zXn]
 refine nw hO.z ?_
 clear hO
 intro p1 H hO
 refine nw hO ?_
 clear hO
 intro p2 H hO
 replace hO:St H (Γ++[(p1,⟨mfC m cv,true⟩),(p2,⟨tmC t,true⟩)]):=hO
 refine lw hO 0 rfl (zMa ok.dl) (by omega) ?_
 refine zBj ok hc.app hO ?_
 clear hO
 intro H hO
 refine zaa zWf ?_
 refine zOc (fun h=>?_) (fun h=>?_)
 ·have h:¬ zUa m:=by simpa using h
  rw[if_pos h] at hk
  exact hk H hO.left
 have h:zUa m:=by simpa using h
 rw[if_neg (by simpa using h)] at hk
 refine zaa zba ?_
 refine ld hO 0 rfl (v:=str m.pr) rfl ?_
 refine zaa zba ?_
 refine ld hO 1 rfl (v:=str t.pr) rfl ?_
 refine zTs (by omega) ht ?_
 refine zaa zWf ?_
 refine zOc (fun h=>?_) (fun h=>?_)
 ·have h:zEc m.pr≠zEc t.pr:=by simpa using h
  rw[if_pos h] at hk
  exact hk H hO.left
 have h:¬ zEc m.pr≠zEc t.pr:=by simpa using h
 rw[if_neg h] at hk
 refine zaa zba ?_
 refine ld hO 0 rfl (v:=zbb .u64 m.ver) rfl ?_
 refine zaa zba ?_
 refine ld hO 1 rfl (v:=zbb .u64 t.fl) rfl ?_
 refine zaa zzk ?_
 refine zja (fun h=>?_) (fun h=>?_)
 ·rw[if_pos h] at hk
  exact hk H hO.left
 rw[if_neg h] at hk
 refine zaa zba ?_
 refine ld hO 0 rfl (v:=int m.sz) rfl ?_
 refine zaa zba ?_
 refine ld hO 1 rfl (v:=int t.rm) rfl ?_
 refine zaa zPc ?_
 refine zja (fun h=>?_) (fun h=>?_)
 ·rw[if_pos h] at hk
  exact hk H hO.left
 ·rw[if_neg (by omega)] at hk
  exact hk H hO.left
set_option maxHeartbeats 4000000 in
theorem zjk{m:Mf}{t:Tm}(ok:m.Ok)(hc:RdH Γ cv m.cks)(ht:t.pr.length≤1000000)(hO:St H Γ)(hk:∀ H',St H' Γ→K (int (zwp m t)) H'):wCall P zEf [agg (mfC m cv),agg (tmC t)] H K:=by
 apply zZl; unfold zol
 have h36:=zAh (cv:=cv) ok.dl
 have hpl:=ok.pl
 unfold zwp at hk
 rw[zud,zXn]
 refine nw hO.z ?_
 clear hO
 intro p1 H hO
 refine nw hO ?_
 clear hO
 intro p2 H hO
 replace hO:St H (Γ++[(p1,⟨mfC m cv,true⟩),(p2,⟨tmC t,true⟩)]):=hO
 refine lw hO 0 rfl (zMa ok.dl) (by omega) ?_
 refine zik ok hc.app hO ?_
 clear hO
 intro H hO
 refine zaa zWf ?_
 refine zOc (fun h=>?_) (fun h=>?_)
 ·have h:¬ zUa m:=by simpa using h
  rw[if_pos h] at hk
  exact hk H hO.left
 have h:zUa m:=by simpa using h
 rw[if_neg (by simpa using h)] at hk
 refine zaa zba ?_
 refine ld hO 0 rfl (v:=str m.pr) rfl ?_
 have hO1:=hO
 refine zop (by omega) hO ?_
 clear hO
 intro H2 hO
 refine zaa zba ?_
 refine ld hO 1 rfl (v:=str t.pr) rfl ?_
 refine⟨zWb hO1 (Γ.length+1) (zEa rfl) hO (Γ.length+1) (zEa rfl) rfl,?_⟩
 refine zop ht hO ?_
 clear hO
 intro H hO
 refine zaa (show _=some (.bool (!(zEc m.pr == zEc t.pr))) from rfl) ?_
 refine zOc (fun h=>?_) (fun h=>?_)
 ·have h:zEc m.pr≠zEc t.pr:=by simpa using h
  rw[if_pos h] at hk
  exact hk H hO.left
 have h:¬ zEc m.pr≠zEc t.pr:=by simpa using h
 rw[if_neg h] at hk
 refine zaa zba ?_
 refine ld hO 0 rfl (v:=zbb .u64 m.ver) rfl ?_
 refine zaa zba ?_
 refine ld hO 1 rfl (v:=zbb .u64 t.fl) rfl ?_
 refine zaa zzk ?_
 refine zja (fun h=>?_) (fun h=>?_)
 ·rw[if_pos h] at hk
  exact hk H hO.left
 rw[if_neg h] at hk
 refine zaa zba ?_
 refine ld hO 0 rfl (v:=int m.sz) rfl ?_
 refine zaa zba ?_
 refine ld hO 1 rfl (v:=int t.rm) rfl ?_
 refine zaa zPc ?_
 refine zja (fun h=>?_) (fun h=>?_)
 ·rw[if_pos h] at hk
  exact hk H hO.left
 ·rw[if_neg (by omega)] at hk
  exact hk H hO.left
end J
set_option maxRecDepth 100000
namespace J
open Go Go.Ab
variable{H:Heap}{Γ Γ0 Γ2 Δ G L:List (Nat × Blk)}{K:VH}{v w x cv dv:Value}{xs ys zs bs b key ms:List Int}{j p q o n k:Nat}{e:Int}{cs cs':List Value}{l:List UInt8}{m:Mf}{t u:Tm}
theorem zcT:zc P 52=tmC ⟨[],0,0⟩:=by kernel_rfl
set_option maxHeartbeats 4000000 in
theorem admits_main(wf:m.Wf)(hO:St H G)(hc:RdH G cv m.cks):wCall P zye [agg (mfC m cv),agg (tmC t)] H fun v _=>v=.bool true:=by
 apply zMh; unfold zYf
 rw[zud,zXn]
 refine nw hO.z ?_
 clear hO
 intro p1 H hO
 refine nw hO ?_
 clear hO
 intro p2 H hO
 replace hO:St H (G++[(p1,⟨mfC m cv,true⟩),(p2,⟨tmC t,true⟩)]):=hO
 refine zEj hO ?_
 clear hO
 intro H hO
 refine zaa zWf ?_
 refine zgg rfl ?_
 refine zwa (fun l' H'=>l'=[ptr p1 0,ptr p2 0]∧St H' (G++[(p1,⟨mfC m cv,true⟩),(p2,⟨tmC t,true⟩)])∧(m.pr.length≤300∧m.cks.length≤100)∧t.pr.length≤300) ?_ ?_
 ·refine lw hO 0 rfl (zMa wf.dl) (by omega) ?_
  refine zQm wf.dl hc.app hO ?_
  clear hO
  intro H hO
  refine zja (fun h=>?_) (fun h=>?_)
  ·repeat (first|refine oi ?_|refine ow ?_|refine wy ?_|refine wn ?_|refine wt ?_|refine wf' ?_|refine cy ?_|refine cn ?_)
   rfl
  ·refine zaa zba ?_
   refine ld hO 1 rfl (v:=str t.pr) rfl ?_
   refine zra zTh ?_
   refine zaa zPc ?_
   refine zaa (zsb h) ?_
   refine zja (fun h2=>?_) (fun h2=>?_)
   ·rfl
   ·exact⟨rfl,hO,by omega,by omega⟩
 clear hO
 rintro l' H ⟨rfl,hO,⟨g1,g2⟩,g3⟩
 try simp only[zha,zia]
 have ok:=wf.ok g1 g2
 refine lw hO 0 rfl (zMa wf.dl) (by omega) ?_
 refine lw hO 1 rfl (n:=3) rfl (by omega) ?_
 have hO1:=hO
 refine zdc ok hc.app (by omega) hO ?_
 clear hO
 intro H2 hO
 refine lw hO 0 rfl (zMa wf.dl) (by omega) ?_
 refine⟨zWb hO1 (G.length+0) (zEa rfl) hO (G.length+0) (zEa rfl) (zrd hc.simple),?_⟩
 refine lw hO 1 rfl (n:=3) rfl (by omega) ?_
 refine⟨zWb hO1 (G.length+1) (zEa rfl) hO (G.length+1) (zEa rfl) rfl,?_⟩
 refine zjk ok hc.app (by omega) hO ?_
 intro H3 _
 refine zaa zNd ?_
 rw[decide_eq_true rfl]
theorem zqp{p q o o':Nat}{l:List Value}(h:p≠q):zVf (zza [ptr p o]) (zza [ptr q o',agg l]):=by
 show zFb [p] [q]=true
 have e:Nat.beq p q=false:=by
  cases hb:Nat.beq p q with
  | false=>rfl
  | true=>exact absurd (Nat.eq_of_beq_eq_true hb) h
 simp[zFb,zRa,zwv,e]
def flC(m:Mf)(cv:Value)(t:Tm)(less:Nat)(more:Int):List Value:=mfC m cv++(tmC t++[zbb .u64 less,int more])
theorem zAk:zwp m t=0↔zUa m∧zEc m.pr=zEc t.pr∧¬ m.ver < t.fl∧¬ m.sz > t.rm:=by
 unfold zwp
 by_cases h1:zUa m
 ·rw[if_neg (by simpa using h1)]
  by_cases h2:zEc m.pr=zEc t.pr
  ·rw[if_neg (by simpa using h2)]
   by_cases h3:m.ver < t.fl
   ·rw[if_pos h3]; simp[h3]
   ·rw[if_neg h3]
    by_cases h4:m.sz > t.rm
    ·rw[if_pos h4]; simp only[h4,not_true_eq_false,and_false,iff_false]; omega
    ·rw[if_neg h4]; simp only[h1,h2,h3,h4,not_false_eq_true,and_self]
  ·rw[if_pos h2]; simp[h2]
 ·rw[if_pos h1]; simp[h1]
set_option maxHeartbeats 8000000 in
theorem floor_main{less:Nat}{more:Int}(wf:m.Wf)(hO:St H G)(hc:RdH G cv m.cks):wCall P zff [agg (flC m cv t less more)] H fun v _=>v=.bool true:=by
 apply zsi; unfold zBg
 have hml:=zMa (cv:=cv) wf.dl
 rw[show zsa (agg (flC m cv t less more))=flC m cv t less more from rfl]
 refine nw hO.z ?_
 clear hO
 intro p1 H hO
 replace hO:St H (G++[(p1,⟨flC m cv t less more,true⟩)]):=hO
 refine zEj hO ?_
 clear hO
 intro H hO
 refine zaa zWf ?_
 refine zgg rfl ?_
 have d0:((flC m cv t less more).drop 0).take 37=mfC m cv:=by
  rw[List.drop_zero]; exact List.take_left' hml
 have d1:((flC m cv t less more).drop (0+37)).take 3=tmC t:=by
  unfold flC
  rw[List.drop_left' (by omega)]; rfl
 have d2:(flC m cv t less more)[0+40]?=some (zbb .u64 less):=by
  unfold flC
  rw[List.getElem?_append_right (by omega),hml]; rfl
 have d3:(flC m cv t less more)[0+41]?=some (int more):=by
  unfold flC
  rw[List.getElem?_append_right (by omega),hml]; rfl
 refine zaa zba ?_
 refine zCa hO (G.length+0) (zEa rfl) d0 hml (by omega) ?_
 refine zaa zba ?_
 refine zCa hO (G.length+0) (zEa rfl) d1 rfl (by omega) ?_
 refine zaa zba ?_
 refine ld hO 0 rfl d2 ?_
 refine zaa zba ?_
 refine ld hO 0 rfl d3 ?_
 rw[zcM,zcT]
 refine nw hO ?_
 clear hO
 intro p3 H hO
 refine nw hO ?_
 clear hO
 intro p4 H hO
 replace hO:St H (G++[(p1,⟨flC m cv t less more,true⟩),(p3,⟨mfC m0 zva,true⟩),(p4,⟨tmC ⟨[],0,0⟩,true⟩)]):=hO
 have ne3:=J.St.ne' hO (i:=G.length+0) (j:=G.length+1) (zEa rfl) (zEa rfl) (by omega)
 have ne4:=J.St.ne' hO (i:=G.length+0) (j:=G.length+2) (zEa rfl) (zEa rfl) (by omega)
 refine sw hO 1 rfl rfl hml (zqd hc.one) ?_
 clear hO
 intro H hO
 refine⟨zqp ne3,zqp ne3,zqp ne3,?_⟩
 refine sw hO 2 rfl rfl (n:=3) rfl rfl ?_
 clear hO
 intro H hO
 refine⟨zqp ne4,zqp ne4,?_⟩
 replace hO:St H (G++[(p1,⟨flC m cv t less more,true⟩),(p3,⟨mfC m cv,true⟩),(p4,⟨tmC t,true⟩)]):=hO
 replace hO:St H (G++[(p3,⟨mfC m cv,true⟩),(p4,⟨tmC t,true⟩)]):=zRy (A:=[(p1,⟨flC m cv t less more,true⟩)]) hO
 clear d0 d1 d2 d3 ne3 ne4
 refine zwa (fun l' H'=>l'=[ptr p3 0,ptr p4 0,zbb .u64 less,int more]∧St H' (G++[(p3,⟨mfC m cv,true⟩),(p4,⟨tmC t,true⟩)])∧(m.pr.length≤300∧m.cks.length≤100)∧t.pr.length≤300) ?_ ?_
 ·refine lw hO 0 rfl (zMa wf.dl) (by omega) ?_
  refine zQm wf.dl hc.app hO ?_
  clear hO
  intro H hO
  refine zja (fun h=>?_) (fun h=>?_)
  ·repeat (first|refine oi ?_|refine ow ?_|refine wy ?_|refine wn ?_|refine wt ?_|refine wf' ?_|refine cy ?_|refine cn ?_)
   rfl
  ·refine zaa zba ?_
   refine ld hO 1 rfl (v:=str t.pr) rfl ?_
   refine zra zTh ?_
   refine zaa zPc ?_
   refine zaa (zsb h) ?_
   refine zja (fun h2=>?_) (fun h2=>?_)
   ·rfl
   ·exact⟨rfl,hO,by omega,by omega⟩
 clear hO
 rintro l' H ⟨rfl,hO,⟨g1,g2⟩,g3⟩
 try simp only[zha,zia]
 have ok:=wf.ok g1 g2
 refine lw hO 0 rfl (zMa wf.dl) (by omega) ?_
 refine lw hO 1 rfl (n:=3) rfl (by omega) ?_
 refine zdc ok hc.app (by omega) hO ?_
 clear hO
 intro H hO
 refine lw hO 1 rfl (n:=3) rfl (by omega) ?_
 refine nw hO ?_
 clear hO
 intro p8 H hO
 refine sw hO 2 rfl (n:=3) rfl rfl rfl ?_
 clear hO
 intro H hO
 refine zaa zba ?_
 refine ld hO 1 rfl (v:=zbb .u64 t.fl) rfl ?_
 refine zra zoy ?_
 refine zaa zba ?_
 refine s1 hO 2 rfl rfl (by simp[tmC]) ?_
 clear hO
 intro H hO
 refine zaa zba ?_
 refine ld hO 1 rfl (v:=int t.rm) rfl ?_
 refine zra zPz ?_
 refine zaa zba ?_
 refine s1 hO 2 rfl rfl (by simp[tmC]) ?_
 clear hO
 intro H hO
 have em:Value.int .u64 (min (less:Int) (t.fl:Int))=zbb .u64 (min less t.fl):=by
  show Value.int .u64 _=Value.int .u64 ((min less t.fl:Nat):Int)
  congr 1; omega
 rw[em] at hO
 replace hO:St H (G++[(p3,⟨mfC m cv,true⟩),(p4,⟨tmC t,true⟩),(p8,⟨tmC ⟨t.pr,min less t.fl,max more t.rm⟩,true⟩)]):=hO
 refine zwa (fun l' H'=>l'=[ptr p3 0,ptr p4 0]∧St H' (G++[(p3,⟨mfC m cv,true⟩),(p4,⟨tmC t,true⟩),(p8,⟨tmC ⟨t.pr,min less t.fl,max more t.rm⟩,true⟩)])) ?_ ?_
 ·refine zaa zNd ?_
  refine zja (fun h=>?_) (fun h=>?_)
  ·obtain⟨z1,z2,z3,z4⟩:=zAk.1 h
   have zu:zwp m ⟨t.pr,min less t.fl,max more t.rm⟩=0:=zAk.2 ⟨z1,z2,by show ¬ m.ver < min less t.fl; omega,by show ¬ m.sz > max more t.rm; omega⟩
   refine lw hO 0 rfl (zMa wf.dl) (by omega) ?_
   refine lw hO 2 rfl (n:=3) rfl (by omega) ?_
   refine zdc ok hc.app (by show t.pr.length≤_; omega) hO ?_
   rw[zu]
   clear hO
   intro H hO
   have h36:=zAh (cv:=cv) ok.dl
   refine zaa zAc ?_
   refine zQj (fun h=>h rfl) ?_
   refine zaa zba ?_
   refine ld hO 0 rfl (v:=zbb .u64 m.ver) rfl ?_
   refine zaa zba ?_
   refine ld hO 1 rfl (v:=zbb .u64 t.fl) rfl ?_
   refine zaa zzk ?_
   refine zaa (zsb (fun h=>h rfl)) ?_
   refine zQj z3 ?_
   refine zaa zba ?_
   refine ld hO 0 rfl (v:=int m.sz) rfl ?_
   refine zaa zba ?_
   refine ld hO 1 rfl (v:=int t.rm) rfl ?_
   refine zaa zPc ?_
   refine zaa (zsb z3) ?_
   refine zQj z4 ?_
   refine zaa zba ?_
   refine ld hO 0 rfl (v:=zbb .u64 m.ver) rfl ?_
   refine zaa (zzk (b:=1)) ?_
   refine zaa (zsb z4) ?_
   refine zaa (zSc h) ?_
   have z5:¬ m.ver < 1:=by have:=z1.2.1; omega
   refine zQj z5 ?_
   exact⟨rfl,hO⟩
  ·refine zaa (zsb h) ?_
   refine zgg rfl ?_
   exact⟨rfl,hO⟩
 clear hO
 rintro l' H ⟨rfl,hO⟩
 try simp only[zha,zia]
 refine zaa zba ?_
 refine s1 hO 1 rfl rfl (by simp[tmC]) ?_
 clear hO
 intro H hO
 replace hO:St H (G++[(p3,⟨mfC m cv,true⟩),(p4,⟨tmC ⟨t.pr,281474976710657,t.rm⟩,true⟩),(p8,⟨tmC ⟨t.pr,min less t.fl,max more t.rm⟩,true⟩)]):=hO
 refine lw hO 0 rfl (zMa wf.dl) (by omega) ?_
 refine lw hO 1 rfl (n:=3) rfl (by omega) ?_
 refine zdc ok hc.app (by show t.pr.length≤_; omega) hO ?_
 intro H hO
 refine zaa zAc ?_
 rw[decide_eq_true]
 intro h
 obtain⟨z1,z2,z3,z4⟩:=zAk.1 h
 have:=z1.2.2.1
 have z3:¬ m.ver < 281474976710657:=z3
 omega
end J
set_option maxRecDepth 100000
namespace J
open Go Go.Ab
variable{H:Heap}{Γ Γ0 Γ2 Δ G L:List (Nat × Blk)}{K:VH}{v w x cv dv:Value}{xs ys zs bs b key ms:List Int}{j p q o n k:Nat}{e:Int}{cs cs':List Value}{l:List UInt8}{m:Mf}{t u:Tm}
theorem zRl{k:IntKind}{t:TypeId}{c:Bool}{a b:Int}(h:a=b):(zla P .eql t c).f (.int k a) (.int k b)=some (.bool true):=by rw[zNd,decide_eq_true h]
theorem zPB(a b c d e:Int)(H:Heap):(zea P 22 5).f [(0,.int .u8 a),(1,.int .u8 b),(2,.int .u8 c),(3,.int .u8 d),(4,.int .u8 e)] H=some (sl H.next 0 5 3,H.push (by8 [a,b,c,d,e])):=by kernel_rfl
theorem bT1:(zWa P 52).f [(0,(.string ⟨#[66,79,79,84,49]⟩)),(1,(.int .u64 7)),(2,(.int .i64 65))]=some (agg (tmC ⟨[66,79,79,84,49],7,65⟩)):=by kernel_rfl
theorem bT2:(zWa P 52).f [(0,(.string ⟨#[98,111,111,116,50]⟩))]=some (agg (tmC ⟨[98,111,111,116,50],0,0⟩)):=by kernel_rfl
theorem bT3:(zWa P 52).f [(0,(.string ⟨#[98,111,111,116,49]⟩)),(1,(.int .u64 8))]=some (agg (tmC ⟨[98,111,111,116,49],8,0⟩)):=by kernel_rfl
theorem bT4:(zWa P 52).f [(0,(.string ⟨#[98,111,111,116,49]⟩)),(2,(.int .i64 64))]=some (agg (tmC ⟨[98,111,111,116,49],0,64⟩)):=by kernel_rfl
theorem bT5:(zWa P 52).f []=some (agg (tmC ⟨[],0,0⟩)):=by kernel_rfl
theorem fo1:zEc [98,111,111,116,49]=[98,111,111,116,49]:=by kernel_rfl
theorem fo2:zEc [66,79,79,84,49]=[98,111,111,116,49]:=by kernel_rfl
theorem fo3:zEc [98,111,111,116,50]=[98,111,111,116,50]:=by kernel_rfl
theorem ad1:zwp mPl ⟨[66,79,79,84,49],7,65⟩=0:=zAk.2 ⟨zHd,by show zEc [98,111,111,116,49]=zEc [66,79,79,84,49]; rw[fo1,fo2],by decide,by decide⟩
theorem ad2:zwp mPl ⟨[98,111,111,116,50],0,0⟩=143:=by
 unfold zwp
 rw[if_neg (fun h=>h zHd),if_pos]
 show zEc [98,111,111,116,49]≠zEc [98,111,111,116,50]
 rw[fo1,fo3]; decide
theorem ad3:zwp mPl ⟨[98,111,111,116,49],8,0⟩=144:=by
 unfold zwp
 rw[if_neg (fun h=>h zHd),if_neg (fun h=>h rfl),if_pos (by decide)]
theorem ad4:zwp mPl ⟨[98,111,111,116,49],0,64⟩=145:=by
 unfold zwp
 rw[if_neg (fun h=>h zHd),if_neg (fun h=>h rfl),if_neg (by decide),if_pos (by decide)]
theorem ad5:zwp m0 ⟨[],0,0⟩=131:=by
 unfold zwp
 rw[if_pos (fun h=>absurd h.2.1 (by decide))]
theorem by4{a b c d:Int}(h:(0≤a∧a≤255)∧(0≤b∧b≤255)∧(0≤c∧c≤255)∧(0≤d∧d≤255)):By [a,b,c,d]:=by
 intro x hx
 simp at hx
 omega
set_option maxHeartbeats 8000000 in
theorem names_main(hO:St H G):wCall P zef [] H fun v _=>v=.bool true:=by
 apply zri; unfold zAg
 refine zEj hO ?_
 clear hO
 intro H hO
 refine zaa zWf ?_
 refine zgg rfl ?_
 refine zsd hO RdB.nil (by intro x h; cases h) (by simp) ?_
 rw[show zkh []=(0,141) by decide]
 clear hO
 intro H hO
 refine zaa zsx ?_
 refine zaa ztx ?_
 refine zxa hO (zZA _ _ _ _ _) ?_
 clear hO
 intro q H hO
 refine zsd hO (zVs (L:=[(q,⟨by8 [66,85,220,8],true⟩)]) (xs:=[66,85,220,8]) 0 rfl (.inr rfl) rfl) (by4 (by omega)) (by simp) ?_
 rw[show zkh [66,85,220,8]=(2304,0) by decide]
 clear hO
 intro H hO
 replace hO:=hO.left
 refine zaa zsx ?_
 refine zaa ztx ?_
 refine zxa hO (zPB _ _ _ _ _ _) ?_
 clear hO
 intro q H hO
 refine zsd hO (zVs (L:=[(q,⟨by8 [66,85,220,8,1],true⟩)]) (xs:=[66,85,220,8,1]) 0 rfl (.inr rfl) rfl) (by intro x hx; simp at hx; omega) (by simp) ?_
 rw[show zkh [66,85,220,8,1]=(2304,0) by decide]
 clear hO
 intro H hO
 replace hO:=hO.left
 refine zaa zsx ?_
 refine zaa ztx ?_
 refine zxa hO (zZA _ _ _ _ _) ?_
 clear hO
 intro q H hO
 refine zsd hO (zVs (L:=[(q,⟨by8 [66,85,221,8],true⟩)]) (xs:=[66,85,221,8]) 0 rfl (.inr rfl) rfl) (by4 (by omega)) (by simp) ?_
 rw[show zkh [66,85,221,8]=(0,141) by decide]
 clear hO
 intro H hO
 replace hO:=hO.left
 refine zaa zsx ?_
 refine zaa ztx ?_
 refine zxa hO (zZA _ _ _ _ _) ?_
 clear hO
 intro q H hO
 refine kp hO 0 rfl (by omega) ?_
 refine zsd hO (zVs (L:=[(q,⟨by8 [66,86,1,1],true⟩)]) (xs:=[66,86,1,1]) 0 rfl (.inr rfl) rfl) (by4 (by omega)) (by simp) ?_
 rw[show zkh [66,86,1,1]=(0,141) by decide]
 clear hO
 intro H hO
 replace hO:=hO.left
 refine zaa zsx ?_
 refine zaa ztx ?_
 refine zDj hO ?_
 clear hO
 intro H c1 hO h1
 rw[zcM]
 refine nw hO.z ?_
 clear hO
 intro p11 H hO
 refine sw hO 0 rfl (by rfl) (zMa rfl) (zqd h1.one) ?_
 clear hO
 intro H hO
 replace hO:St H ((G++zGb c1 (hsC mPl.cks))++[(p11,⟨mfC mPl c1,true⟩)]):=hO
 have hc:RdH ((G++zGb c1 (hsC mPl.cks))++[(p11,⟨mfC mPl c1,true⟩)]) c1 mPl.cks:=h1.app'.app
 refine zaa (zRl rfl) ?_
 refine zaa zMb ?_
 refine zaf rfl ?_
 refine zaa (zRl rfl) ?_
 refine zaa zMb ?_
 refine zaf rfl ?_
 refine zaa (zRl rfl) ?_
 refine zaa zMb ?_
 refine zaf rfl ?_
 refine zaa (zRl rfl) ?_
 refine zaa zMb ?_
 refine zaf rfl ?_
 refine zaa (zRl rfl) ?_
 refine zaa zMb ?_
 refine zaf rfl ?_
 refine zaa (zRl rfl) ?_
 refine zaa zMb ?_
 refine zaf rfl ?_
 refine lw hO 0 rfl (zMa rfl) (by omega) ?_
 refine zaa bT1 ?_
 refine zdc zJg hc (by simp) hO ?_
 rw[ad1]
 clear hO
 intro H hO
 refine zaa (zRl rfl) ?_
 refine zaa zMb ?_
 refine zaf rfl ?_
 refine lw hO 0 rfl (zMa rfl) (by omega) ?_
 refine zaa bT2 ?_
 refine zdc zJg hc (by simp) hO ?_
 rw[ad2]
 clear hO
 intro H hO
 refine zaa (zRl rfl) ?_
 refine zaa zMb ?_
 refine zaf rfl ?_
 refine lw hO 0 rfl (zMa rfl) (by omega) ?_
 refine zaa bT3 ?_
 refine zdc zJg hc (by simp) hO ?_
 rw[ad3]
 clear hO
 intro H hO
 refine zaa (zRl rfl) ?_
 refine zaa zMb ?_
 refine zaf rfl ?_
 refine lw hO 0 rfl (zMa rfl) (by omega) ?_
 refine zaa bT4 ?_
 refine zdc zJg hc (by simp) hO ?_
 rw[ad4]
 clear hO
 intro H hO
 refine zaa (zRl rfl) ?_
 refine zaa zMb ?_
 refine zaf rfl ?_
 refine zaa bM0 ?_
 refine zaa bT5 ?_
 refine zdc zBA RdH.nil (by simp) hO ?_
 rw[ad5]
 intro H _
 refine zaa (zRl rfl) ?_
 refine zaa zMb ?_
 rfl
theorem zNx{ts:List TypeId}{N:Nat}{c:List Value}{b:List (List Value)}(h:ShpL P (52::ts) N c b) :
  ∃ (t:Tm) (c':List Value),c=tmC t++c'∧ShpL P ts N c' b:=by
 have h0:=zUh Go.Proofs.Tryd.underlying52 h
 have h0:ShpL P (9::24::3::ts) N c b:=h0
 obtain⟨pr,c1,rfl,h1⟩:=zKr Go.Proofs.Tryd.underlying9 h0
 obtain⟨fl,c2,rfl,w2,h2⟩:=zwe (k:=.u64) Go.Proofs.Tryd.underlying24 h1
 obtain⟨rm,c3,rfl,w3,h3⟩:=zwe (k:=.i64) Go.Proofs.Tryd.underlying3 h2
 have v2:=wf_u64 w2
 have ev:Value.int .u64 fl=zbb .u64 fl.toNat:=zvg v2.1
 refine⟨⟨pr,fl.toNat,rm⟩,c3,?_,h3⟩
 unfold tmC
 rw[← ev]; rfl
theorem arg_tm{ts:List TypeId}{N:Nat}{av:List Value}{b:List (List Value)}(h:ArgS P (52::ts) N av b) :
  ∃ t vs,av=agg (tmC t)::vs∧ArgS P ts N vs b:=by
 obtain⟨cs,vs,b1,b2,rfl,rfl,h1,h2⟩:=zkq h (.inl ⟨_,Go.Proofs.Tryd.underlying52⟩)
 obtain⟨t,c',rfl,h3⟩:=zNx h1
 obtain⟨rfl,rfl⟩:=zjq h3
 rw[List.append_nil] at *
 exact⟨t,vs,rfl,h2⟩
theorem arg_fl{ts:List TypeId}{N:Nat}{av:List Value}{b:List (List Value)}(h:ArgS P (56::ts) N av b) :
  ∃ m cv t less more vs b1 b2,av=agg (flC m cv t less more)::vs∧b=b1++b2∧RdH (zUs N b1) cv m.cks∧m.Wf∧ArgS P ts (N+b1.length) vs b2:=by
 obtain⟨cs,vs,b1,b2,rfl,rfl,h1,h2⟩:=zkq h (.inl ⟨_,Go.Proofs.Tryd.underlying56⟩)
 have h0:=zUh Go.Proofs.Tryd.underlying56 h1
 have h0:ShpL P [29,52,24,3] N cs b1:=h0
 obtain⟨m,cv,c',b3,b4,rfl,rfl,hr,hw,h3⟩:=zIx h0
 obtain⟨t,c2,rfl,h4⟩:=zNx h3
 obtain⟨less,c3,rfl,w2,h5⟩:=zwe (k:=.u64) Go.Proofs.Tryd.underlying24 h4
 obtain⟨more,c4,rfl,w3,h6⟩:=zwe (k:=.i64) Go.Proofs.Tryd.underlying3 h5
 obtain⟨rfl,rfl⟩:=zjq h6
 have v2:=wf_u64 w2
 have ev:Value.int .u64 less=zbb .u64 less.toNat:=zvg v2.1
 rw[ev]
 rw[List.append_nil] at *
 exact⟨m,cv,t,less.toNat,more,vs,b3,b2,rfl,rfl,hr,hw,h2⟩
end J
