/- texts of the proof, one behind the other -/
import Derived.Lib.RuneBytes
import Derived.Shelf.Unicode.CaseLaid
import Derived.Test.YtheklmekepeblaaGreatDoorUF
set_option linter.unusedVariables false
set_option linter.unusedSimpArgs false
set_option linter.unusedSectionVars false
set_option maxRecDepth 100000
namespace J
open Go Go.Ab
variable{H:Heap}{Γ Γ0 Γ2 Δ G L:List (Nat × Blk)}{K:VH}{v w x cv dv:Value}{xs ys zs bs b key ms r:List Int}{j p q o n k mx:Nat}{e:Int}{cs cs':List Value}{l:List UInt8}{m a:Mf}{cks:List (List Int)}
theorem zVl(ok:m.Ok)(h:zIa m):(zXa key m).length=(headA m).length+32∧(zXa key m).length≤2228∧84≤(zXa key m).length∧(headA m).length=(zde m).length+4:=by
 have h1:=zTt ok h
 obtain⟨h2,h3,h4⟩:=zXw ok h
 have h5:(zXa key m).length=(headA m).length+32:=by simp only[zXa,List.length_append,zMj]
 omega
theorem zlB:(headA m++r).take 2=[66,85]∧((headA m++r).take 4).drop 2=leN 2 (zde m).length∧4≤(headA m++r).length∧(headA m).drop 4=zde m:=by
 have h:headA m=[66,85]++[(((zde m).length % 256:Nat):Int),(((zde m).length / 256 % 256:Nat):Int)]++zde m:=by unfold headA; rw[zpJ]
 rw[h,zpJ]
 refine⟨rfl,rfl,by simp,rfl⟩
theorem zWt(ok:m.Ok)(h:zIa m)(r:List Int):zLj (headA m++r)=(((zXa key m).length:Int),0):=by
 obtain⟨h1,h2,h3,h4⟩:=zlB (m:=m) (r:=r)
 obtain⟨b1,b2,b3,b4⟩:=zVl (key:=key) ok h
 obtain⟨m1,m2,m3⟩:=zXw ok h
 unfold zLj
 rw[h1,h2,zKj 2 _ (by omega),if_neg (by simp; simpa using h3),if_neg (by omega)]
 congr 1
 omega
theorem zKm(ok:m.Ok)(h:zIa m)(r:List Int):zdb key (zXa key m++r)=(m,((zXa key m).length:Int),0):=by
 obtain⟨h1,h2,h3,h4⟩:=zlB (m:=m) (r:=zTq key (headA m)++r)
 obtain⟨b1,b2,b3,b4⟩:=zVl (key:=key) ok h
 have e:zXa key m++r=headA m++(zTq key (headA m)++r):=by simp[zXa]
 have hl:zLj (zXa key m++r)=(((zXa key m).length:Int),0):=by rw[e]; exact zWt ok h _
 rw[zHv hl (by simp)]
 have t1:(zXa key m++r).take ((zXa key m).length - 32)=headA m:=by
  rw[e,List.take_append_of_le_length (by omega),show (zXa key m).length - 32=(headA m).length by omega,List.take_length]
 have t2:((zXa key m++r).take (zXa key m).length).drop ((zXa key m).length - 32)=zTq key (headA m):=by
  rw[List.take_append_of_le_length (by omega),List.take_length,show (zXa key m).length - 32=(headA m).length by omega]
  unfold zXa
  rw[List.drop_left]
 rw[t1,t2,h4,zEv ok h]
 rw[if_neg (fun h=>h rfl),if_neg (by simp)]
theorem zmB(ok:m.Ok)(h:zIa m){t:Nat}(ht:t < (zXa key m).length):zdb key ((zXa key m).take t)=(m0,0,141):=by
 by_cases h4:t < 4
 ·refine zUt ?_
  unfold zLj
  rw[if_pos (.inl (by rw[List.length_take]; omega))]
 ·have e:((zXa key m).take t).take 4=(zXa key m).take 4:=by rw[List.take_take,Nat.min_eq_left (by omega)]
  have e2:((zXa key m).take t).take 2=(zXa key m).take 2:=by rw[List.take_take,Nat.min_eq_left (by omega)]
  have hl:=zWt (key:=key) ok h (zTq key (headA m))
  have hl2:zLj ((zXa key m).take t)=zLj (zXa key m):=by
   unfold zLj
   rw[e,e2,List.length_take]
   have h3:((min t (zXa key m).length < 4∨(zXa key m).take 2≠[66,85])↔((zXa key m).length < 4∨(zXa key m).take 2≠[66,85])):=by
    constructor <;> rintro (h|h)
    ·left; omega
    ·right; exact h
    ·left; omega
    ·right; exact h
   simp only[h3]
  refine zyp (n:=(zXa key m).length) ?_ (by rw[List.length_take]; omega)
  rw[hl2]; exact hl
theorem zLm{key b:List Int}(hb:By b)(hl:b.length≤1000000):((zdb key b).2.2=0∧zIa (zdb key b).1∧(zdb key b).1.Ok∧(zdb key b).2.1=((zXa key (zdb key b).1).length:Int)∧(zXa key (zdb key b).1).length≤b.length∧b.take (zXa key (zdb key b).1).length=zXa key (zdb key b).1) ∨
  ((zdb key b).1=m0∧(zdb key b).2.1=0∧((zdb key b).2.2=141∨(zdb key b).2.2=142∨(zdb key b).2.2=131)):=by
 rcases zXq b with h0|⟨N,h0,g1,g2,g3,g4,g5⟩
 ·rw[zUt h0]; exact .inr ⟨rfl,rfl,.inl rfl⟩
 by_cases hN:b.length < N
 ·rw[zyp h0 hN]; exact .inr ⟨rfl,rfl,.inl rfl⟩
 rw[zHv h0 (by omega)]
 by_cases hm:zTq key (b.take (N - 32))≠(b.take N).drop (N - 32)
 ·rw[if_pos hm]; exact .inr ⟨rfl,rfl,.inr (.inl rfl)⟩
 rw[if_neg hm]
 have hps:By ((b.take (N - 32)).drop 4):=By.drop (By.take hb)
 have hpl:((b.take (N - 32)).drop 4).length≤9000:=by rw[List.length_drop,List.length_take]; omega
 have hpl2:((b.take (N - 32)).drop 4).length=N - 36:=by rw[List.length_drop,List.length_take]; omega
 rcases zrn ((b.take (N - 32)).drop 4) with hz|hz
 ·rw[if_neg (fun h=>h hz)]
  left
  have hok:=zVt hps hpl
  obtain⟨p1,p2⟩:=ztD hps (m:=(zvc ((b.take (N - 32)).drop 4)).1) (Prod.ext rfl hz)
  simp only
  generalize (zvc ((b.take (N - 32)).drop 4)).1=M at *
  have hA:headA M=b.take (N - 32):=by
   unfold headA
   rw[p2,hpl2]
   have e1:leN 2 (N - 36)=(b.take 4).drop 2:=by
    have h5:N - 36=leV ((b.take 4).drop 2):=by omega
    rw[h5]
    have:=zls ((b.take 4).drop 2) (By.drop (By.take hb))
    rw[show ((b.take 4).drop 2).length=2 by rw[List.length_drop,List.length_take]; omega] at this
    exact this
   rw[e1,← g4]
   have e2:b.take 2++(b.take 4).drop 2=b.take 4:=by
    conv=>rhs; rw[← List.take_append_drop 2 (b.take 4)]
    rw[List.take_take,Nat.min_eq_left (by omega)]
   rw[e2]
   conv=>rhs; rw[← List.take_append_drop 4 (b.take (N - 32))]
   rw[List.take_take,Nat.min_eq_left (by omega)]
  have hB:zXa key M=b.take N:=by
   unfold zXa
   rw[hA,Classical.not_not.1 hm]
   conv=>rhs; rw[← List.take_append_drop (N - 32) (b.take N)]
   rw[List.take_take,Nat.min_eq_left (by omega)]
  have hlen:(zXa key M).length=N:=by rw[hB,List.length_take]; omega
  exact⟨trivial,p1,hok,by rw[hlen],by omega,by rw[hlen,hB]⟩
 ·rw[hz,if_pos (by simp)]; exact .inr ⟨rfl,rfl,.inr (.inr rfl)⟩
end J
set_option maxRecDepth 100000
namespace J
open Go Go.Ab
variable{H:Heap}{Γ Γ0 Γ2 Δ G L:List (Nat × Blk)}{K:VH}{v w x cv dv iv:Value}{xs ys zs bs b key ms r image:List Int}{j p q o n k mx:Nat}{e cut:Int}{cs cs':List Value}{l:List UInt8}{m a:Mf}{cks:List (List Int)}
structure Mf.Wf (m:Mf):Prop where
 dl:m.dg.length=32
 db:By m.dg
 cl:∀ x ∈ m.cks,x.length=32
 cb:∀ x ∈ m.cks,By x
 ver:m.ver < 18446744073709551616
 sz:-9223372036854775808≤m.sz∧m.sz≤9223372036854775807
 ck:-9223372036854775808≤m.ck∧m.ck≤9223372036854775807
theorem Mf.Wf.ok(h:m.Wf)(h1:m.pr.length≤300)(h2:m.cks.length≤100):m.Ok:=⟨h.dl,h.db,h.cl,h.cb,h.ver,h.sz,h.ck,by omega,by omega⟩
theorem zLJ{a b c:Value}:zFc 0 (.tuple [a,b,c].toArray)=some a:=rfl
theorem zMJ{a b c:Value}:zFc 1 (.tuple [a,b,c].toArray)=some b:=rfl
theorem zNJ{a b c:Value}:zFc 2 (.tuple [a,b,c].toArray)=some c:=rfl
theorem zZw(hb:By b)(hl:b.length≤1000000):(zdb key b).1.Ok:=by
 rcases zLm (key:=key) hb hl with h|h
 ·exact h.2.2.1
 ·rw[h.1]; exact zny
end J
set_option maxRecDepth 100000
namespace J
open Go Go.Ab
variable{H:Heap}{Γ Γ0 Γ2 Δ G L:List (Nat × Blk)}{K:VH}{v w x cv dv iv:Value}{xs ys zs bs b key ms r image:List Int}{j p q o n k mx:Nat}{e cut:Int}{cs cs':List Value}{l:List UInt8}{m a:Mf}{cks:List (List Int)}
theorem zIv(t:TypeId)(c:Bool)(l m:List UInt8)(h:l.length+m.length≤1000000000):(zna P .add t c).f (str l) (str m)=some (str (l++m)):=by
 show zIG .add l m=_
 unfold zIG
 simp only[zlb,zOa]
 rw[if_pos (Nat.ble_eq_true_of_le (by omega))]
end J
set_option maxRecDepth 100000
namespace J
open Go Go.Ab
variable{H:Heap}{Γ Γ0 Γ2 Δ G L:List (Nat × Blk)}{K:VH}{v w x cv dv iv:Value}{xs ys zs:List Int}{m a:Mf}{cks:List (List Int)}
theorem zgi{P:Program}{t:TypeId}{fs:Array Field}(ht:P.underlying t=some (.struct fs)){ts:List TypeId}{N:Nat}{c:List Value}{b:List (List Value)}(h:ShpL P (t::ts) N c b):ShpL P (fs.toList.map (·.type)++ts) N c b:=by
 cases h with
 | struct hu h=>rw[ht] at hu; cases hu; exact h
 | array hu _=>rw[ht] at hu; cases hu
 | int v hu _ _=>rw[ht] at hu; cases hu
 | bool v hu _=>rw[ht] at hu; cases hu
 | str v hu _ _=>rw[ht] at hu; cases hu
 | slNil hu _=>rw[ht] at hu; cases hu
 | sl len hu _ _ _ _=>rw[ht] at hu; cases hu
theorem zqy{P:Program}{t e:TypeId}{n:Nat}(ht:P.underlying t=some (.array n e)){ts:List TypeId}{N:Nat}{c:List Value}{b:List (List Value)}(h:ShpL P (t::ts) N c b):ShpL P (List.replicate n e++ts) N c b:=by
 cases h with
 | array hu h=>rw[ht] at hu; cases hu; exact h
 | struct hu _=>rw[ht] at hu; cases hu
 | int v hu _ _=>rw[ht] at hu; cases hu
 | bool v hu _=>rw[ht] at hu; cases hu
 | str v hu _ _=>rw[ht] at hu; cases hu
 | slNil hu _=>rw[ht] at hu; cases hu
 | sl len hu _ _ _ _=>rw[ht] at hu; cases hu
theorem zvD{P:Program}{t:TypeId}(ht:P.underlying t=some .string){ts:List TypeId}{N:Nat}{c:List Value}{b:List (List Value)}(h:ShpL P (t::ts) N c b):∃ (l:List UInt8) (c':List Value),c=str l::c'∧ShpL P ts N c' b:=by
 cases h with
 | str v hu _ h=>exact⟨v.data.toList,_,rfl,h⟩
 | array hu h=>rw[ht] at hu; cases hu
 | struct hu _=>rw[ht] at hu; cases hu
 | int v hu _ _=>rw[ht] at hu; cases hu
 | bool v hu _=>rw[ht] at hu; cases hu
 | slNil hu _=>rw[ht] at hu; cases hu
 | sl len hu _ _ _ _=>rw[ht] at hu; cases hu
theorem zXt{P:Program}{e:TypeId}{k:IntKind}(he:P.underlying e=some (.int k)){ts:List TypeId}:∀ (n N:Nat) (c:List Value) (b:List (List Value)),ShpL P (List.replicate n e++ts) N c b→∃ (xs:List Int) (c':List Value),xs.length=n∧c=xs.map (Value.int k)++c'∧(∀ x ∈ xs,(Lit.int k x).wf=true)∧ShpL P ts N c' b
 | 0,N,c,b,h=>⟨[],c,rfl,rfl,by simp,h⟩
 | n+1,N,c,b,h=>by
  obtain⟨x,c',rfl,hw,h1⟩:=zCj he (show ShpL P (e::(List.replicate n e++ts)) N c b from h)
  obtain⟨xs,c'',hl,rfl,hws,h2⟩:=zXt he n N _ _ h1
  exact⟨x::xs,c'',by simp[hl],rfl,fun y hy=>by rcases List.mem_cons.1 hy with rfl|hy; exact hw; exact hws y hy,h2⟩
theorem zAI:P.underlying 22=some (.slice 5):=by kernel_rfl
theorem arg_bytes'{ts:List TypeId}{N:Nat}{av:List Value}{b:List (List Value)}(h:ArgS P (22::ts) N av b) :
  ∃ v vs b1 b2 xs,av=v::vs∧b=b1++b2∧RdB (zsu N b1) v xs∧(xs≠[]→Stay (zsu N b1) v)∧By xs∧ArgS P ts (N+b1.length) vs b2:=by
 obtain⟨v,vs,b1,b2,e,eb,h1,h2⟩:=ziv h (by rw[zAI]; simp) (by rw[zAI]; simp)
 rcases zeA zAI h1 with⟨c',e1,h3⟩|⟨len,cells,c',bs,b',e1,eb1,hm,hl,h3,h4⟩
 ·cases e1
  exact⟨_,vs,b1,b2,[],e,eb,.inl ⟨rfl,rfl⟩,fun _=>.inl rfl,fun x hx=>(by cases hx),h2⟩
 ·cases e1
  obtain⟨hb,xs,rfl,rfl,hw⟩:=zNo (k:=.u8) Go.Proofs.Tryz.underlying5 _ _ _ _ h3
  subst hb
  subst eb1
  refine⟨_,vs,_,b2,xs,e,eb,.inr ⟨N,0,_,rfl,.inl rfl,.inr ⟨0,_,rfl,by rw[List.drop_zero]; exact List.take_of_length_le (by simp)⟩⟩,fun hne=>?_,fun x hx=>wf_u8 (hw x hx),h2⟩
  exact .inr ⟨N,0,_,_,0,_,rfl,rfl,zxd xs,.inr (by simpa [by8] using hne)⟩
end J
set_option maxRecDepth 100000
namespace J
open Go Go.Ab
variable{H:Heap}{Γ Γ0 Γ2 Δ G L:List (Nat × Blk)}{K:VH}{v w x:Value}{xs ys zs bs b key ms:List Int}{j p q o n k:Nat}{e:Int}{cs cs':List Value}{l m:List UInt8}{ds:List (List UInt8)}
def Rn(n:Int):Prop:=0≤n∧n≤1114111∧(n < 55296∨57343 < n)
def znB(x:Go.Lib.CaseRow):Bool:=
 if x.delta 1 > 1114111 then decide ((x.2.1:Int)+1≤1114111∧((x.2.1:Int)+1 < 55296∨57343 < (x.1:Int)))
 else decide (0≤(x.1:Int)+x.delta 1∧(x.2.1:Int)+x.delta 1≤1114111∧((x.2.1:Int)+x.delta 1 < 55296∨57343 < (x.1:Int)+x.delta 1))
theorem zoB:Go.Lib.caseT.all znB=true:=by kernel_rfl
theorem zJv(T:Array Go.Lib.CaseRow)(r:Int):∀ (f lo hi i:Nat),Go.Lib.lookupIdx T r f lo hi=some i→hi≤T.size→i < T.size∧((T.getD i (0,0,0,0,0)).1:Int)≤r∧r≤((T.getD i (0,0,0,0,0)).2.1:Int)
 | 0,lo,hi,i,h,_=>by cases h
 | f+1,lo,hi,i,h,hh=>by
  unfold Go.Lib.lookupIdx at h
  split at h
  ·split at h
   ·rename_i h1 h2
    obtain rfl:=Option.some.inj h
    exact⟨by omega,h2⟩
   ·split at h
    ·exact zJv T r f _ _ i h (by omega)
    ·exact zJv T r f _ _ i h hh
  ·cases h
theorem zrE{n:Int}(h:Rn n):Rn (Go.Lib.toLowerU n):=by
 unfold Go.Lib.toLowerU
 split
 ·split
  ·unfold Rn at *; omega
  ·exact h
 ·rename_i h1
  unfold Go.Lib.toR Go.Lib.lookupGo
  cases hl:Go.Lib.lookupIdx Go.Lib.caseA n (Go.Lib.caseA.size+1) 0 Go.Lib.caseA.size with
  | none=>exact h
  | some i=>
   show Rn (Go.Lib.convertR 1 n (Go.Lib.caseA.getD i (0,0,0,0,0)))
   obtain⟨hi,h2,h3⟩:=zJv _ _ _ _ _ _ hl (Nat.le_refl _)
   have hg:=List.all_eq_true.1 zoB (Go.Lib.caseA[i]'hi) (by
    have:=Array.getElem_mem hi
    rw[← Array.mem_toList_iff] at this
    exact this)
   have e:Go.Lib.caseA.getD i (0,0,0,0,0)=Go.Lib.caseA[i]'hi:=by
    unfold Array.getD; rw[dif_pos hi]; rfl
   rw[e] at h2 h3 ⊢
   generalize Go.Lib.caseA[i]'hi=y at *
   unfold znB at hg
   unfold Go.Lib.convertR Rn at *
   split at hg
   ·rename_i hd
    rw[if_pos hd]
    have hg:=of_decide_eq_true hg
    show 0≤(y.1:Int)+((n - y.1) - (n - y.1) % 2+((1:Nat):Int))∧_
    omega
   ·rename_i hd
    rw[if_neg hd]
    have hg:=of_decide_eq_true hg
    omega
def zBI(n:Nat):Nat:=(Go.Lib.toLowerU n).toNat
theorem zKv{n:Nat}(h:Rn n):Go.Lib.toLowerU n=zBI n:=(Int.toNat_of_nonneg (zrE h).1).symm
theorem zpB{n:Nat}(h:Rn n):Rn (zBI n):=by rw[← zKv h]; exact zrE h
def zsE(n:Nat):List Int:=
 if n < 128 then [((n:Nat):Int)]
 else if n < 2048 then [((192+n / 64:Nat):Int),((128+n % 64:Nat):Int)]
 else if n < 65536 then [((224+n / 4096:Nat):Int),((128+n / 64 % 64:Nat):Int),((128+n % 64:Nat):Int)]
 else [((240+n / 262144:Nat):Int),((128+n / 4096 % 64:Nat):Int),((128+n / 64 % 64:Nat):Int),((128+n % 64:Nat):Int)]
theorem zVF{n:Nat}(h:Rn n):Go.Lib.encodeRune n=ob (zsE n):=by
 obtain⟨h0,h1,h2⟩:=h
 have e:∀ x:Int,x.toNat.toUInt8=UInt8.ofNat x.toNat:=fun _=>rfl
 unfold Go.Lib.encodeRune ob zsE
 congr 1
 split
 ·rw[Go.Lib.encodeRuneZ_one (by omega) (by omega)]
 split
 ·rw[Go.Lib.encodeRuneZ_two (by omega) (by omega)]
  congr 1
 split
 ·rw[Go.Lib.encodeRuneZ_three (by omega)]
  congr 1
 ·rw[Go.Lib.encodeRuneZ_four (by omega) (by omega)]
  congr 1
theorem zwD(n:Nat):(zsE n).length≤4:=by
 unfold zsE
 repeat' split
 all_goals simp
theorem zOH(xs:List Int):(ob xs).length=xs.length:=by simp[ob]
theorem zns{t:TypeId}{c:Bool}{a b:Nat}(hb:0 < b):(zna P .rem t c).f (int a) (int b)=some (int ((a % b:Nat):Int)):=zDf (k:=.i64) hb
theorem zCe{t:TypeId}{c:Bool}{a b:Nat}(h:a+b≤9223372036854775807):(zna P .add t c).f (int a) (int b)=some (int ((a+b:Nat):Int)):=by
 rw[zoc (by omega) (by omega)]; rfl
theorem zjA{a:Nat}(h:a < 256):zbc .u8 (int a) H=some (.int .u8 ((a:Nat):Int),H):=by rw[zUI,Nat.mod_eq_of_lt h]
theorem zOJ(a b c:Int)(H:Heap):(zia P 22 3).f [(0,.int .u8 a),(1,.int .u8 b),(2,.int .u8 c)] H=some (sl H.next 0 3 3,H.push (by8 [a,b,c])):=by kernel_rfl
theorem zPJ(a b c d:Int)(H:Heap):(zia P 22 4).f [(0,.int .u8 a),(1,.int .u8 b),(2,.int .u8 c),(3,.int .u8 d)] H=some (sl H.next 0 4 3,H.push (by8 [a,b,c,d])):=by kernel_rfl
theorem zos{H:Heap}{q p n:Nat}{K:VH}(hO:St H ((Γ++zRa (sl q 0 0 3) [])++[(p,⟨by8 ys,true⟩)]))(hn:n=ys.length)(hl:ys.length≤4)(hk:∀ H',St H' Γ→K (str (ob ys)) H') :
  opW (zqa 1 1 (sl q 0 0 3) (sl p 0 n 3) H) fun v H=>opW (zfb v H) fun s H=>K s H:=by
 refine zwd (xs:=[]) hO (.inr ⟨q,.inr ⟨rfl,rfl⟩,rfl,Nat.le_refl _,rfl⟩) (by show 0+_≤_; omega) hn (.inr rfl) ?_
 clear hO
 intro H v c hO hv
 refine zxa (RdB.str hO hv.rd.app') ?_
 exact hk H hO.left
set_option maxHeartbeats 2000000 in
theorem zxD(hn:n≤1114111)(hO:St H Γ)(hk:∀ H',St H' Γ→K (str (ob (zsE n))) H'):wCall P zLk [int n] H K:=by
 apply zxt; unfold zwt
 refine zCa hO (zpn _) ?_
 clear hO
 intro q H hO
 unfold zsE at hk
 refine zaa zMa ?_
 refine zoa (fun h=>?_) (fun h=>?_)
 ·rw[if_pos (by omega)] at hk
  refine zxa (zjA (by omega)) ?_
  refine zCa hO (zHw _ _ _) ?_
  clear hO
  intro p H hO
  exact zos hO rfl (by simp) hk
 rw[if_neg (by omega)] at hk
 refine zaa zMa ?_
 refine zoa (fun h=>?_) (fun h=>?_)
 ·rw[if_pos (by omega)] at hk
  refine zaa (zes (b:=64) (by omega) (by omega)) ?_
  refine zaa (zCe (a:=192) (by omega)) ?_
  refine zxa (zjA (by omega)) ?_
  refine zaa (zns (b:=64) (by omega)) ?_
  refine zaa (zCe (a:=128) (by omega)) ?_
  refine zxa (zjA (by omega)) ?_
  refine zCa hO (zhH _ _ _ _ _) ?_
  clear hO
  intro p H hO
  exact zos hO rfl (by simp) hk
 rw[if_neg (by omega)] at hk
 refine zaa zMa ?_
 refine zoa (fun h=>?_) (fun h=>?_)
 ·rw[if_pos (by omega)] at hk
  refine zaa (zes (b:=4096) (by omega) (by omega)) ?_
  refine zaa (zCe (a:=224) (by omega)) ?_
  refine zxa (zjA (by omega)) ?_
  refine zaa (zes (b:=64) (by omega) (by omega)) ?_
  refine zaa (zns (b:=64) (by omega)) ?_
  refine zaa (zCe (a:=128) (by omega)) ?_
  refine zxa (zjA (by omega)) ?_
  refine zaa (zns (b:=64) (by omega)) ?_
  refine zaa (zCe (a:=128) (by omega)) ?_
  refine zxa (zjA (by omega)) ?_
  refine zCa hO (zOJ _ _ _ _) ?_
  clear hO
  intro p H hO
  exact zos hO rfl (by simp) hk
 ·rw[if_neg (by omega)] at hk
  refine zaa (zes (b:=262144) (by omega) (by omega)) ?_
  refine zaa (zCe (a:=240) (by omega)) ?_
  refine zxa (zjA (by omega)) ?_
  refine zaa (zes (b:=4096) (by omega) (by omega)) ?_
  refine zaa (zns (b:=64) (by omega)) ?_
  refine zaa (zCe (a:=128) (by omega)) ?_
  refine zxa (zjA (by omega)) ?_
  refine zaa (zes (b:=64) (by omega) (by omega)) ?_
  refine zaa (zns (b:=64) (by omega)) ?_
  refine zaa (zCe (a:=128) (by omega)) ?_
  refine zxa (zjA (by omega)) ?_
  refine zaa (zns (b:=64) (by omega)) ?_
  refine zaa (zCe (a:=128) (by omega)) ?_
  refine zxa (zjA (by omega)) ?_
  refine zCa hO (zPJ _ _ _ _ _) ?_
  clear hO
  intro p H hO
  exact zos hO rfl (by simp) hk
end J
set_option maxRecDepth 100000
namespace J
open Go Go.Ab
variable{H:Heap}{Γ Γ0 Γ2 Δ G L:List (Nat × Blk)}{K:VH}{v w x cv dv:Value}{xs ys zs bs b key ms:List Int}{j p q o n k:Nat}{e:Int}{cs cs':List Value}{l m:List UInt8}{ds:List (List UInt8)}
theorem zLv{size n0 least:Nat}{r:Nat × Nat}(h:ztu l size n0 least=some r):Rn r.1:=by
 unfold ztu at h
 split at h
 ·cases h
 ·split at h
  ·split at h
   ·cases h
   ·cases h; unfold Rn; simp only; omega
  ·cases h
theorem zPH{r:Nat × Nat}(h:o4 l=some r):Rn r.1:=by
 have:=zAi l 0
 unfold o4 at h
 split at h
 ·cases h; unfold Rn; simp only; omega
 split at h
 ·exact zLv h
 split at h
 ·exact zLv h
 split at h
 ·exact zLv h
 ·cases h
def fR(s:List UInt8):List UInt8:=match o4 s with
 | none=>s.take 1
 | some r=>ob (zsE (zBI r.1))
def f4(ds:List (List UInt8)):List UInt8:=ds.flatMap fR
def zjf(l:List UInt8):List UInt8:=f4 (zws l)
theorem ztE(s:List UInt8):(fR s).length≤4:=by
 unfold fR
 split
 ·rw[List.length_take]; omega
 ·rw[zOH]; exact zwD _
theorem zuE:∀ ds:List (List UInt8),(f4 ds).length≤4 * ds.length
 | []=>Nat.le_refl _
 | a::ds=>by
  have h1:=zuE ds
  have h2:=ztE a
  show (fR a++f4 ds).length≤_
  rw[List.length_append,List.length_cons]; omega
theorem zqB{y:Nat}(hy:y < ds.length):f4 (ds.take (y+1))=f4 (ds.take y)++fR ds[y]:=by
 rw[List.take_add_one,List.getElem?_eq_getElem hy]
 show List.flatMap fR (_++[ds[y]])=_
 rw[List.flatMap_append]
 show f4 _++(fR ds[y]++[])=_
 rw[List.append_nil]
theorem fr3(s:List UInt8):∃ (n:Nat) (bt:List UInt8) (br:Bool),ztg s=[int n,str bt,.bool br]∧n≤1114111∧(br=true→fR s=bt)∧(br=false→Rn n∧fR s=ob (zsE (zBI n))):=by
 cases h:o4 s with
 | none=>exact⟨cb s 0,s.take 1,true,by unfold ztg; rw[h],by have:=zAi s 0; omega,fun _=>by unfold fR; rw[h],fun h=>by cases h⟩
 | some r=>exact⟨r.1,s.take r.2,false,by unfold ztg; rw[h],zHH h,fun h=>(by cases h),fun _=>⟨zPH h,by unfold fR; rw[h]⟩⟩
theorem zaJ{n:Nat}(h:n < 2147483648):zbc .i64 (.int .i32 (n:Int)) H=some (int n,H):=by
 show some (Value.int .i64 (zwc .i64 (n:Int)),H)=_
 rw[zXm (by omega) (by omega)]
set_option maxHeartbeats 4000000 in
theorem zYt(hl:l.length≤1000000)(hO:St H Γ)(hk:∀ H',St H' Γ→K (str (zjf l)) H'):wCall P zef [str l] H K:=by
 apply zRr; unfold zHq
 refine zVq hl hO ?_
 clear hO
 intro H v hO hv
 have hsl:(zws l).length≤l.length:=zis _ _
 unfold zjf at hk
 generalize zws l=ds at *
 refine zxa hv.lenSl ?_
 refine zxm (fun k l' H'=>∃ (y:Nat),y≤ds.length∧k=ds.length - y∧l'=[str [],str (f4 (ds.take y)),v,int ds.length,int y]∧St H' (Γ++zRa v (rnC ds))) _ _ ?_ ds.length _ _ ⟨0,by omega,by omega,rfl,hO⟩
 clear hO
 rintro k l' H ⟨y,hy,rfl,rfl,hO⟩
 unfold zwl
 try simp only[zja,zka]
 refine zaa zMa ?_
 refine zoa (fun h=>?_) (fun h=>?_)
 ·have hy:y < ds.length:=by omega
  obtain⟨pv,cv,rfl,hΓ⟩:∃ pv cv,v=sl pv 0 ds.length cv∧zRa v (rnC ds)=[(pv,⟨rnC ds,true⟩)]:=by
   rcases hv with⟨_,h0,_⟩|⟨pv,rfl|rfl,_⟩
   ·omega
   ·exact⟨pv,_,rfl,rfl⟩
   ·exact⟨pv,_,rfl,rfl⟩
  rw[hΓ] at hO
  obtain⟨n,bt,br,r1,hn,r2,r3⟩:=fr3 ds[y]
  have hcells:=zpv (f:=ztg) (n:=3) (l:=ds) (i:=y) (o:=0) (m:=3) (fun x _=>(ztp x).2) hy (by omega)
  rw[r1] at hcells
  have hlen:=zuE (ds.take y)
  have hlr:=ztE ds[y]
  rw[List.length_take] at hlen
  refine zaa (zpb (by omega) (by omega)) ?_
  refine zFa hO (Γ.length+0) (zza rfl) (show _=[int n,str bt,.bool br] from by rw[show 0+(y:Int).toNat * 3=y * 3+0 by omega]; exact hcells) rfl (by omega) ?_
  rw[zTw]
  refine nw hO ?_
  clear hO
  intro p5 H hO
  refine sw hO 1 rfl rfl rfl rfl ?_
  clear hO
  intro H hO
  replace hO:St H (Γ++[(pv,⟨rnC ds,true⟩),(p5,⟨[int n,str bt,.bool br],true⟩)]):=hO
  refine zaa zba ?_
  refine ld hO 1 rfl (v:=.bool br) rfl ?_
  cases br with
  | true=>
   refine zhd rfl ?_
   refine zaa zba ?_
   refine ld hO 1 rfl (v:=str bt) rfl ?_
   rw[r2 rfl] at hlr
   refine zaa (zIv _ _ _ _ (by omega)) ?_
   refine zaa (zoc (by omega) (by omega)) ?_
   refine⟨ds.length - (y+1),by omega,y+1,by omega,rfl,?_,?_⟩
   ·rw[zqB hy,r2 rfl]; rfl
   ·rw[hΓ]; exact zfi (A:=[(pv,⟨rnC ds,true⟩)]) hO
  | false=>
   obtain⟨hrn,r3⟩:=r3 rfl
   have hlow:=zpB hrn
   rw[r3] at hlr
   refine zKb rfl ?_
   refine zaa zba ?_
   refine ld hO 1 rfl (v:=int n) rfl ?_
   refine zxa (zGH (by omega) (by omega)) ?_
   refine zTx ?_
   rw[zKv hrn]
   refine zxa (zaJ (by unfold Rn at hlow; omega)) ?_
   refine zxD (by unfold Rn at hlow; omega) hO ?_
   clear hO
   intro H hO
   refine zaa (zIv _ _ _ _ (by omega)) ?_
   refine zaa (zoc (by omega) (by omega)) ?_
   refine⟨ds.length - (y+1),by omega,y+1,by omega,rfl,?_,?_⟩
   ·rw[zqB hy,r3]; rfl
   ·rw[hΓ]; exact zfi (A:=[(pv,⟨rnC ds,true⟩)]) hO
 ·have e:y=ds.length:=by omega
  subst e
  rw[List.take_of_length_le (Nat.le_refl _)]
  refine zSa rfl ?_
  try simp only[zja,zka]
  exact hk _ hO.left
theorem zQH(l:List UInt8)(pos:Nat)(hp:pos < l.length):(Seal.foldR (bsl l) pos=fR (l.drop pos))∧(Utf8.decode (bsl l) pos).2=wid (l.drop pos):=by
 refine⟨?_,(zSA l pos 0 hp).2⟩
 have hne:l.drop pos≠[]:=by
  intro h
  have:=congrArg List.length h
  simp at this
  omega
 have hx:(bsl l).extract pos (bsl l).size=bsl (l.drop pos):=by
  apply ByteArray.ext
  apply Array.ext'
  show _=l.drop pos
  rw[ByteArray.data_extract,Array.toList_extract]
  simp only[List.extract,zOg]
  exact List.take_of_length_le (by simp)
 have ht:=Go.Lib.tail_decode (bsl l) pos 0
 rw[hx,Nat.add_zero] at ht
 obtain⟨d0,d1⟩:=zhE hne
 have hgo:Go.Lib.decodeGo (bsl (l.drop pos))=Utf8.decode (bsl (l.drop pos)) 0:=by
  unfold Go.Lib.decodeGo
  rw[if_neg (by rw[zOg]; intro h; exact hne (List.length_eq_zero_iff.1 h))]
 have hg:[(bsl l).get! pos]=(l.drop pos).take 1:=by
  have h1:(bsl l).get! pos=l[pos]:=by
   show (l.toArray)[pos]! = _
   rw[getElem!_pos _ _ (by simpa using hp)]; simp
  rw[h1,List.drop_eq_getElem_cons hp]; rfl
 unfold Seal.foldR Seal.brF
 rw[hx,hgo,← ht]
 cases ho:o4 (l.drop pos) with
 | none=>
  rw[d0 ho]
  rw[if_pos (by simp)]
  unfold fR
  rw[ho,hg]
 | some r=>
  rw[d1 r ho]
  have hfd:=zJH ho
  have hrn:=zPH ho
  rw[decide_eq_false (show ¬ ((r.1:Int)=65533∧r.2=1) by omega),if_neg (by simp)]
  unfold fR
  rw[ho,zKv hrn]
  exact zVF (zpB hrn)
theorem zax(l:List UInt8):∀ (b pos:Nat),pos≤l.length→Seal.foldG (bsl l) b pos=f4 (zPt b (l.drop pos))
 | 0,pos,_=>rfl
 | b+1,pos,hp=>by
  unfold Seal.foldG zPt
  by_cases h:pos < l.length
  ·obtain⟨h1,h2⟩:=zQH l pos h
   have hne:l.drop pos≠[]:=by
    intro h
    have:=congrArg List.length h
    simp at this
    omega
   have hw:=zhs hne
   rw[List.length_drop] at hw
   rw[if_pos (show pos < (bsl l).size from h),if_neg hne,h1,h2,zax l b (pos+wid (l.drop pos)) (by omega),List.drop_drop]
   rfl
  ·have hnil:l.drop pos=[]:=List.drop_of_length_le (by omega)
   rw[if_neg (show ¬ pos < (bsl l).size from h),if_pos hnil]
   rfl
theorem zWF(l:List UInt8):Seal.foldF (bsl l)=bsl (zjf l):=by
 have:=zax l l.length 0 (Nat.zero_le _)
 rw[List.drop_zero] at this
 show (⟨(Seal.foldG (bsl l) l.length 0).toArray⟩:ByteArray)=_
 rw[this]; rfl
theorem zZt(hl:l.length≤1000000)(hk:K (str (zjf l)) H):wCall P zCg [str l] H K:=by
 refine zRo (s:=bsl l) (by rw[zOg]; omega) ?_
 rw[zWF]; exact hk
theorem zry(hl:l.length≤1000000)(hm:m.length≤1000000)(hk:K (.bool (zjf l == zjf m)) H):wCall P zRi [str l,str m] H K:=by
 apply zWr; unfold zOq
 refine zZt hl ?_
 refine zZt hm ?_
 refine zaa (show _=some (.bool (zjf l == zjf m)) from rfl) ?_
 exact hk
structure Tm where
 pr:List UInt8
 fl:Nat
 rm:Int
def tmC(t:Tm):List Value:=[str t.pr,zwb .u64 t.fl,int t.rm]
def zLn(m:Mf)(t:Tm):Int:=if ¬ zIa m then 131 else if zjf m.pr≠zjf t.pr then 143 else if m.ver < t.fl then 144 else if m.sz > t.rm then 145 else 0
theorem zps{t:Tm}:zBa (agg (tmC t))=tmC t:=rfl
theorem zbx{k:IntKind}{t:TypeId}{c:Bool}{a b:Nat}:(zna P .lss t c).f (zwb k a) (zwb k b)=some (.bool (decide (a < b))):=by
 rw[zMa]
 rw[decide_eq_decide.2 (show ((a:Int) < (b:Int))↔a < b by omega)]
set_option maxHeartbeats 4000000 in
theorem zsy{m:Mf}{t:Tm}(ok:m.Ok)(hc:RdH Γ cv m.cks)(ht:t.pr.length≤1000000)(hO:St H Γ)(hk:∀ H',St H' Γ→K (int (zLn m t)) H'):wCall P zOi [agg (mfC m cv),agg (tmC t)] H K:=by
 apply zSr; unfold zIq
 have h36:=zzf (cv:=cv) ok.dl
 have hpl:=ok.pl
 unfold zLn at hk
 rw[zNf,zps]
 refine nw hO.z ?_
 clear hO
 intro p1 H hO
 refine nw hO ?_
 clear hO
 intro p2 H hO
 replace hO:St H (Γ++[(p1,⟨mfC m cv,true⟩),(p2,⟨tmC t,true⟩)]):=hO
 refine lw hO 0 rfl (zta ok.dl) (by omega) ?_
 refine zJj ok hc.app hO ?_
 clear hO
 intro H hO
 refine zaa zJb ?_
 refine znd (fun h=>?_) (fun h=>?_)
 ·have h:¬ zIa m:=by simpa using h
  rw[if_pos h] at hk
  exact hk H hO.left
 have h:zIa m:=by simpa using h
 rw[if_neg (by simpa using h)] at hk
 refine zaa zba ?_
 refine ld hO 0 rfl (v:=str m.pr) rfl ?_
 refine zaa zba ?_
 refine ld hO 1 rfl (v:=str t.pr) rfl ?_
 refine zry (by omega) ht ?_
 refine zaa zJb ?_
 refine znd (fun h=>?_) (fun h=>?_)
 ·have h:zjf m.pr≠zjf t.pr:=by simpa using h
  rw[if_pos h] at hk
  exact hk H hO.left
 have h:¬ zjf m.pr≠zjf t.pr:=by simpa using h
 rw[if_neg h] at hk
 refine zaa zba ?_
 refine ld hO 0 rfl (v:=zwb .u64 m.ver) rfl ?_
 refine zaa zba ?_
 refine ld hO 1 rfl (v:=zwb .u64 t.fl) rfl ?_
 refine zaa zbx ?_
 refine zoa (fun h=>?_) (fun h=>?_)
 ·rw[if_pos h] at hk
  exact hk H hO.left
 rw[if_neg h] at hk
 refine zaa zba ?_
 refine ld hO 0 rfl (v:=int m.sz) rfl ?_
 refine zaa zba ?_
 refine ld hO 1 rfl (v:=int t.rm) rfl ?_
 refine zaa zKc ?_
 refine zoa (fun h=>?_) (fun h=>?_)
 ·rw[if_pos h] at hk
  exact hk H hO.left
 ·rw[if_neg (by omega)] at hk
  exact hk H hO.left
set_option maxHeartbeats 4000000 in
theorem zMn{m:Mf}{t:Tm}(ok:m.Ok)(hc:RdH Γ cv m.cks)(ht:t.pr.length≤1000000)(hO:St H Γ)(hk:∀ H',St H' Γ→K (int (zLn m t)) H'):wCall P zGf [agg (mfC m cv),agg (tmC t)] H K:=by
 apply zTp; unfold zUo
 have h36:=zzf (cv:=cv) ok.dl
 have hpl:=ok.pl
 unfold zLn at hk
 rw[zNf,zps]
 refine nw hO.z ?_
 clear hO
 intro p1 H hO
 refine nw hO ?_
 clear hO
 intro p2 H hO
 replace hO:St H (Γ++[(p1,⟨mfC m cv,true⟩),(p2,⟨tmC t,true⟩)]):=hO
 refine lw hO 0 rfl (zta ok.dl) (by omega) ?_
 refine zUc ok hc.app hO ?_
 clear hO
 intro H hO
 refine zaa zJb ?_
 refine znd (fun h=>?_) (fun h=>?_)
 ·have h:¬ zIa m:=by simpa using h
  rw[if_pos h] at hk
  exact hk H hO.left
 have h:zIa m:=by simpa using h
 rw[if_neg (by simpa using h)] at hk
 refine zaa zba ?_
 refine ld hO 0 rfl (v:=str m.pr) rfl ?_
 have hO1:=hO
 refine zYt (by omega) hO ?_
 clear hO
 intro H2 hO
 refine zaa zba ?_
 refine ld hO 1 rfl (v:=str t.pr) rfl ?_
 refine⟨zFb hO1 (Γ.length+1) (zza rfl) hO (Γ.length+1) (zza rfl) rfl,?_⟩
 refine zYt ht hO ?_
 clear hO
 intro H hO
 refine zaa (show _=some (.bool (!(zjf m.pr == zjf t.pr))) from rfl) ?_
 refine znd (fun h=>?_) (fun h=>?_)
 ·have h:zjf m.pr≠zjf t.pr:=by simpa using h
  rw[if_pos h] at hk
  exact hk H hO.left
 have h:¬ zjf m.pr≠zjf t.pr:=by simpa using h
 rw[if_neg h] at hk
 refine zaa zba ?_
 refine ld hO 0 rfl (v:=zwb .u64 m.ver) rfl ?_
 refine zaa zba ?_
 refine ld hO 1 rfl (v:=zwb .u64 t.fl) rfl ?_
 refine zaa zbx ?_
 refine zoa (fun h=>?_) (fun h=>?_)
 ·rw[if_pos h] at hk
  exact hk H hO.left
 rw[if_neg h] at hk
 refine zaa zba ?_
 refine ld hO 0 rfl (v:=int m.sz) rfl ?_
 refine zaa zba ?_
 refine ld hO 1 rfl (v:=int t.rm) rfl ?_
 refine zaa zKc ?_
 refine zoa (fun h=>?_) (fun h=>?_)
 ·rw[if_pos h] at hk
  exact hk H hO.left
 ·rw[if_neg (by omega)] at hk
  exact hk H hO.left
end J
