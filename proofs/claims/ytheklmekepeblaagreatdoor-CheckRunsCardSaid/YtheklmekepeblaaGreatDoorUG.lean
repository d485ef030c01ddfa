/- texts of the proof, one behind the other -/
import Derived.Lib.RuneBytes
import Derived.Shelf.Unicode.CaseLaid
import Derived.Test.YtheklmekepeblaaGreatDoorUF
set_option linter.unusedVariables false
set_option linter.unusedSimpArgs false
set_option linter.unusedSectionVars false
set_option maxRecDepth 100000
namespace J
open Go Go.Ab
variable{H:Heap}{Γ Γ0 Γ2 Δ G L:List (Nat × Blk)}{K:VH}{v w x cv dv:Value}{xs ys zs bs b key ms r:List Int}{j p q o n k mx:Nat}{e:Int}{cs cs':List Value}{l:List UInt8}{m a:Mf}{cks:List (List Int)}
theorem zlm(ok:m.Ok)(h:zGa m):(zkc key m).length=(headA m).length+32∧(zkc key m).length≤2228∧84≤(zkc key m).length∧(headA m).length=(zOb m).length+4:=by
 have h1:=zev ok h
 obtain⟨h2,h3,h4⟩:=zZx ok h
 have h5:(zkc key m).length=(headA m).length+32:=by simp only[zkc,List.length_append,zPj]
 omega
theorem zjC:(headA m++r).take 2=[66,85]∧((headA m++r).take 4).drop 2=leN 2 (zOb m).length∧4≤(headA m++r).length∧(headA m).drop 4=zOb m:=by
 have h:headA m=[66,85]++[(((zOb m).length % 256:Nat):Int),(((zOb m).length / 256 % 256:Nat):Int)]++zOb m:=by unfold headA; rw[zYK]
 rw[h,zYK]
 refine⟨rfl,rfl,by simp,rfl⟩
theorem zkC(ok:m.Ok)(h:zGa m)(r:List Int):zeh (headA m++r)=(((zkc key m).length:Int),0):=by
 obtain⟨h1,h2,h3,h4⟩:=zjC (m:=m) (r:=r)
 obtain⟨b1,b2,b3,b4⟩:=zlm (key:=key) ok h
 obtain⟨m1,m2,m3⟩:=zZx ok h
 unfold zeh
 rw[h1,h2,zOj 2 _ (by omega),if_neg (by simp; simpa using h3),if_neg (by omega)]
 congr 1
 omega
theorem ziz(ok:m.Ok)(h:zGa m)(r:List Int):zrb key (zkc key m++r)=(m,((zkc key m).length:Int),0):=by
 obtain⟨h1,h2,h3,h4⟩:=zjC (m:=m) (r:=zPp key (headA m)++r)
 obtain⟨b1,b2,b3,b4⟩:=zlm (key:=key) ok h
 have e:zkc key m++r=headA m++(zPp key (headA m)++r):=by simp[zkc]
 have hl:zeh (zkc key m++r)=(((zkc key m).length:Int),0):=by rw[e]; exact zkC ok h _
 rw[zmt hl (by simp)]
 have t1:(zkc key m++r).take ((zkc key m).length - 32)=headA m:=by
  rw[e,List.take_append_of_le_length (by omega),show (zkc key m).length - 32=(headA m).length by omega,List.take_length]
 have t2:((zkc key m++r).take (zkc key m).length).drop ((zkc key m).length - 32)=zPp key (headA m):=by
  rw[List.take_append_of_le_length (by omega),List.take_length,show (zkc key m).length - 32=(headA m).length by omega]
  unfold zkc
  rw[List.drop_left]
 rw[t1,t2,h4,zKw ok h]
 rw[if_neg (fun h=>h rfl),if_neg (by simp)]
theorem zhn{key b:List Int}(hb:By b)(hl:b.length≤1000000):((zrb key b).2.2=0∧zGa (zrb key b).1∧(zrb key b).1.Ok∧(zrb key b).2.1=((zkc key (zrb key b).1).length:Int)∧(zkc key (zrb key b).1).length≤b.length∧b.take (zkc key (zrb key b).1).length=zkc key (zrb key b).1) ∨
  ((zrb key b).1=m0∧(zrb key b).2.1=0∧((zrb key b).2.2=141∨(zrb key b).2.2=142∨(zrb key b).2.2=131)):=by
 rcases zgn b with h0|⟨N,h0,g1,g2,g3,g4,g5⟩
 ·rw[zhC h0]; exact .inr ⟨rfl,rfl,.inl rfl⟩
 by_cases hN:b.length < N
 ·rw[zNw h0 hN]; exact .inr ⟨rfl,rfl,.inl rfl⟩
 rw[zmt h0 (by omega)]
 by_cases hm:zPp key (b.take (N - 32))≠(b.take N).drop (N - 32)
 ·rw[if_pos hm]; exact .inr ⟨rfl,rfl,.inr (.inl rfl)⟩
 rw[if_neg hm]
 have hps:By ((b.take (N - 32)).drop 4):=By.drop (By.take hb)
 have hpl:((b.take (N - 32)).drop 4).length≤9000:=by rw[List.length_drop,List.length_take]; omega
 have hpl2:((b.take (N - 32)).drop 4).length=N - 36:=by rw[List.length_drop,List.length_take]; omega
 rcases zxj ((b.take (N - 32)).drop 4) with hz|hz
 ·rw[if_neg (fun h=>h hz)]
  left
  have hok:=zaq hps hpl
  obtain⟨p1,p2⟩:=zyE hps (m:=(zwc ((b.take (N - 32)).drop 4)).1) (Prod.ext rfl hz)
  simp only
  generalize (zwc ((b.take (N - 32)).drop 4)).1=M at *
  have hA:headA M=b.take (N - 32):=by
   unfold headA
   rw[p2,hpl2]
   have e1:leN 2 (N - 36)=(b.take 4).drop 2:=by
    have h5:N - 36=leV ((b.take 4).drop 2):=by omega
    rw[h5]
    have:=zkt ((b.take 4).drop 2) (By.drop (By.take hb))
    rw[show ((b.take 4).drop 2).length=2 by rw[List.length_drop,List.length_take]; omega] at this
    exact this
   rw[e1,← g4]
   have e2:b.take 2++(b.take 4).drop 2=b.take 4:=by
    conv=>rhs; rw[← List.take_append_drop 2 (b.take 4)]
    rw[List.take_take,Nat.min_eq_left (by omega)]
   rw[e2]
   conv=>rhs; rw[← List.take_append_drop 4 (b.take (N - 32))]
   rw[List.take_take,Nat.min_eq_left (by omega)]
  have hB:zkc key M=b.take N:=by
   unfold zkc
   rw[hA,Classical.not_not.1 hm]
   conv=>rhs; rw[← List.take_append_drop (N - 32) (b.take N)]
   rw[List.take_take,Nat.min_eq_left (by omega)]
  have hlen:(zkc key M).length=N:=by rw[hB,List.length_take]; omega
  exact⟨trivial,p1,hok,by rw[hlen],by omega,by rw[hlen,hB]⟩
 ·rw[hz,if_pos (by simp)]; exact .inr ⟨rfl,rfl,.inr (.inr rfl)⟩
end J
set_option maxRecDepth 100000
namespace J
open Go Go.Ab
variable{H:Heap}{Γ Γ0 Γ2 Δ G L:List (Nat × Blk)}{K:VH}{v w x cv dv iv:Value}{xs ys zs bs b key ms r image:List Int}{j p q o n k mx:Nat}{e cut:Int}{cs cs':List Value}{l:List UInt8}{m a:Mf}{cks:List (List Int)}
structure Mf.Wf (m:Mf):Prop where
 dl:m.dg.length=32
 db:By m.dg
 cl:∀ x ∈ m.cks,x.length=32
 cb:∀ x ∈ m.cks,By x
 ver:m.ver < 18446744073709551616
 sz:-9223372036854775808≤m.sz∧m.sz≤9223372036854775807
 ck:-9223372036854775808≤m.ck∧m.ck≤9223372036854775807
theorem Mf.Wf.ok(h:m.Wf)(h1:m.pr.length≤300)(h2:m.cks.length≤100):m.Ok:=⟨h.dl,h.db,h.cl,h.cb,h.ver,h.sz,h.ck,by omega,by omega⟩
theorem zaL{a b c:Value}:zee 0 (.tuple [a,b,c].toArray)=some a:=rfl
theorem zbL{a b c:Value}:zee 1 (.tuple [a,b,c].toArray)=some b:=rfl
theorem zcL{a b c:Value}:zee 2 (.tuple [a,b,c].toArray)=some c:=rfl
theorem znt(hb:By b)(hl:b.length≤1000000):(zrb key b).1.Ok:=by
 rcases zhn (key:=key) hb hl with h|h
 ·exact h.2.2.1
 ·rw[h.1]; exact zJw
end J
set_option maxRecDepth 100000
namespace J
open Go Go.Ab
variable{H:Heap}{Γ Γ0 Γ2 Δ G L:List (Nat × Blk)}{K:VH}{v w x cv dv iv:Value}{xs ys zs bs b key ms r image:List Int}{j p q o n k mx:Nat}{e cut:Int}{cs cs':List Value}{l:List UInt8}{m a:Mf}{cks:List (List Int)}
theorem zlC(t:TypeId)(c:Bool)(l m:List UInt8)(h:l.length+m.length≤1000000000):(zpa P .add t c).f (str l) (str m)=some (str (l++m)):=by
 show zTH .add l m=_
 unfold zTH
 simp only[zob,zLa]
 rw[if_pos (Nat.ble_eq_true_of_le (by omega))]
end J
set_option maxRecDepth 100000
namespace J
open Go Go.Ab
variable{H:Heap}{Γ Γ0 Γ2 Δ G L:List (Nat × Blk)}{K:VH}{v w x cv dv iv:Value}{xs ys zs:List Int}{m a:Mf}{cks:List (List Int)}
theorem zli{P:Program}{t:TypeId}{fs:Array Field}(ht:P.underlying t=some (.struct fs)){ts:List TypeId}{N:Nat}{c:List Value}{b:List (List Value)}(h:ShpL P (t::ts) N c b):ShpL P (fs.toList.map (·.type)++ts) N c b:=by
 cases h with
 | struct hu h=>rw[ht] at hu; cases hu; exact h
 | array hu _=>rw[ht] at hu; cases hu
 | int v hu _ _=>rw[ht] at hu; cases hu
 | bool v hu _=>rw[ht] at hu; cases hu
 | str v hu _ _=>rw[ht] at hu; cases hu
 | slNil hu _=>rw[ht] at hu; cases hu
 | sl len hu _ _ _ _=>rw[ht] at hu; cases hu
theorem zjz{P:Program}{t e:TypeId}{n:Nat}(ht:P.underlying t=some (.array n e)){ts:List TypeId}{N:Nat}{c:List Value}{b:List (List Value)}(h:ShpL P (t::ts) N c b):ShpL P (List.replicate n e++ts) N c b:=by
 cases h with
 | array hu h=>rw[ht] at hu; cases hu; exact h
 | struct hu _=>rw[ht] at hu; cases hu
 | int v hu _ _=>rw[ht] at hu; cases hu
 | bool v hu _=>rw[ht] at hu; cases hu
 | str v hu _ _=>rw[ht] at hu; cases hu
 | slNil hu _=>rw[ht] at hu; cases hu
 | sl len hu _ _ _ _=>rw[ht] at hu; cases hu
theorem zBE{P:Program}{t:TypeId}(ht:P.underlying t=some .string){ts:List TypeId}{N:Nat}{c:List Value}{b:List (List Value)}(h:ShpL P (t::ts) N c b):∃ (l:List UInt8) (c':List Value),c=str l::c'∧ShpL P ts N c' b:=by
 cases h with
 | str v hu _ h=>exact⟨v.data.toList,_,rfl,h⟩
 | array hu h=>rw[ht] at hu; cases hu
 | struct hu _=>rw[ht] at hu; cases hu
 | int v hu _ _=>rw[ht] at hu; cases hu
 | bool v hu _=>rw[ht] at hu; cases hu
 | slNil hu _=>rw[ht] at hu; cases hu
 | sl len hu _ _ _ _=>rw[ht] at hu; cases hu
theorem zfv{P:Program}{e:TypeId}{k:IntKind}(he:P.underlying e=some (.int k)){ts:List TypeId}:∀ (n N:Nat) (c:List Value) (b:List (List Value)),ShpL P (List.replicate n e++ts) N c b→∃ (xs:List Int) (c':List Value),xs.length=n∧c=xs.map (Value.int k)++c'∧(∀ x ∈ xs,(Lit.int k x).wf=true)∧ShpL P ts N c' b
 | 0,N,c,b,h=>⟨[],c,rfl,rfl,by simp,h⟩
 | n+1,N,c,b,h=>by
  obtain⟨x,c',rfl,hw,h1⟩:=zvl he (show ShpL P (e::(List.replicate n e++ts)) N c b from h)
  obtain⟨xs,c'',hl,rfl,hws,h2⟩:=zfv he n N _ _ h1
  exact⟨x::xs,c'',by simp[hl],rfl,fun y hy=>by rcases List.mem_cons.1 hy with rfl|hy; exact hw; exact hws y hy,h2⟩
theorem zxL:P.underlying 22=some (.slice 5):=by kernel_rfl
end J
set_option maxRecDepth 100000
namespace J
open Go Go.Ab
variable{H:Heap}{Γ Γ0 Γ2 Δ G L:List (Nat × Blk)}{K:VH}{v w x:Value}{xs ys zs bs b key ms:List Int}{j p q o n k:Nat}{e:Int}{cs cs':List Value}{l m:List UInt8}{ds:List (List UInt8)}
def Rn(n:Int):Prop:=0≤n∧n≤1114111∧(n < 55296∨57343 < n)
def zmC(x:Go.Lib.CaseRow):Bool:=
 if x.delta 1 > 1114111 then decide ((x.2.1:Int)+1≤1114111∧((x.2.1:Int)+1 < 55296∨57343 < (x.1:Int)))
 else decide (0≤(x.1:Int)+x.delta 1∧(x.2.1:Int)+x.delta 1≤1114111∧((x.2.1:Int)+x.delta 1 < 55296∨57343 < (x.1:Int)+x.delta 1))
theorem znC:Go.Lib.caseT.all zmC=true:=by kernel_rfl
theorem zOw(T:Array Go.Lib.CaseRow)(r:Int):∀ (f lo hi i:Nat),Go.Lib.lookupIdx T r f lo hi=some i→hi≤T.size→i < T.size∧((T.getD i (0,0,0,0,0)).1:Int)≤r∧r≤((T.getD i (0,0,0,0,0)).2.1:Int)
 | 0,lo,hi,i,h,_=>by cases h
 | f+1,lo,hi,i,h,hh=>by
  unfold Go.Lib.lookupIdx at h
  split at h
  ·split at h
   ·rename_i h1 h2
    obtain rfl:=Option.some.inj h
    exact⟨by omega,h2⟩
   ·split at h
    ·exact zOw T r f _ _ i h (by omega)
    ·exact zOw T r f _ _ i h hh
  ·cases h
theorem ztF{n:Int}(h:Rn n):Rn (Go.Lib.toLowerU n):=by
 unfold Go.Lib.toLowerU
 split
 ·split
  ·unfold Rn at *; omega
  ·exact h
 ·rename_i h1
  unfold Go.Lib.toR Go.Lib.lookupGo
  cases hl:Go.Lib.lookupIdx Go.Lib.caseA n (Go.Lib.caseA.size+1) 0 Go.Lib.caseA.size with
  | none=>exact h
  | some i=>
   show Rn (Go.Lib.convertR 1 n (Go.Lib.caseA.getD i (0,0,0,0,0)))
   obtain⟨hi,h2,h3⟩:=zOw _ _ _ _ _ _ hl (Nat.le_refl _)
   have hg:=List.all_eq_true.1 znC (Go.Lib.caseA[i]'hi) (by
    have:=Array.getElem_mem hi
    rw[← Array.mem_toList_iff] at this
    exact this)
   have e:Go.Lib.caseA.getD i (0,0,0,0,0)=Go.Lib.caseA[i]'hi:=by
    unfold Array.getD; rw[dif_pos hi]; rfl
   rw[e] at h2 h3 ⊢
   generalize Go.Lib.caseA[i]'hi=y at *
   unfold zmC at hg
   unfold Go.Lib.convertR Rn at *
   split at hg
   ·rename_i hd
    rw[if_pos hd]
    have hg:=of_decide_eq_true hg
    show 0≤(y.1:Int)+((n - y.1) - (n - y.1) % 2+((1:Nat):Int))∧_
    omega
   ·rename_i hd
    rw[if_neg hd]
    have hg:=of_decide_eq_true hg
    omega
def zSJ(n:Nat):Nat:=(Go.Lib.toLowerU n).toNat
theorem zPw{n:Nat}(h:Rn n):Go.Lib.toLowerU n=zSJ n:=(Int.toNat_of_nonneg (ztF h).1).symm
theorem zoC{n:Nat}(h:Rn n):Rn (zSJ n):=by rw[← zPw h]; exact ztF h
def zuF(n:Nat):List Int:=
 if n < 128 then [((n:Nat):Int)]
 else if n < 2048 then [((192+n / 64:Nat):Int),((128+n % 64:Nat):Int)]
 else if n < 65536 then [((224+n / 4096:Nat):Int),((128+n / 64 % 64:Nat):Int),((128+n % 64:Nat):Int)]
 else [((240+n / 262144:Nat):Int),((128+n / 4096 % 64:Nat):Int),((128+n / 64 % 64:Nat):Int),((128+n % 64:Nat):Int)]
theorem zfH{n:Nat}(h:Rn n):Go.Lib.encodeRune n=ob (zuF n):=by
 obtain⟨h0,h1,h2⟩:=h
 have e:∀ x:Int,x.toNat.toUInt8=UInt8.ofNat x.toNat:=fun _=>rfl
 unfold Go.Lib.encodeRune ob zuF
 congr 1
 split
 ·rw[Go.Lib.encodeRuneZ_one (by omega) (by omega)]
 split
 ·rw[Go.Lib.encodeRuneZ_two (by omega) (by omega)]
  congr 1
 split
 ·rw[Go.Lib.encodeRuneZ_three (by omega)]
  congr 1
 ·rw[Go.Lib.encodeRuneZ_four (by omega) (by omega)]
  congr 1
theorem zCE(n:Nat):(zuF n).length≤4:=by
 unfold zuF
 repeat' split
 all_goals simp
theorem zYI(xs:List Int):(ob xs).length=xs.length:=by simp[ob]
theorem zgv{t:TypeId}{c:Bool}{a b:Nat}(hb:0 < b):(zpa P .rem t c).f (int a) (int b)=some (int ((a % b:Nat):Int)):=zDf (k:=.i64) hb
theorem zCi{t:TypeId}{c:Bool}{a b:Nat}(h:a+b≤9223372036854775807):(zpa P .add t c).f (int a) (int b)=some (int ((a+b:Nat):Int)):=by
 rw[zLc (by omega) (by omega)]; rfl
theorem zjB{a:Nat}(h:a < 256):zSb .u8 (int a) H=some (.int .u8 ((a:Nat):Int),H):=by rw[znK,Nat.mod_eq_of_lt h]
theorem zyL(a b c:Int)(H:Heap):(zla P 22 3).f [(0,.int .u8 a),(1,.int .u8 b),(2,.int .u8 c)] H=some (sl H.next 0 3 3,H.push (by8 [a,b,c])):=by kernel_rfl
theorem zzL(a b c d:Int)(H:Heap):(zla P 22 4).f [(0,.int .u8 a),(1,.int .u8 b),(2,.int .u8 c),(3,.int .u8 d)] H=some (sl H.next 0 4 3,H.push (by8 [a,b,c,d])):=by kernel_rfl
theorem zot{H:Heap}{q p n:Nat}{K:VH}(hO:St H ((Γ++zKa (sl q 0 0 3) [])++[(p,⟨by8 ys,true⟩)]))(hn:n=ys.length)(hl:ys.length≤4)(hk:∀ H',St H' Γ→K (str (ob ys)) H') :
  opW (zsa 1 1 (sl q 0 0 3) (sl p 0 n 3) H) fun v H=>opW (zVa v H) fun s H=>K s H:=by
 refine zwd (xs:=[]) hO (.inr ⟨q,.inr ⟨rfl,rfl⟩,rfl,Nat.le_refl _,rfl⟩) (by show 0+_≤_; omega) hn (.inr rfl) ?_
 clear hO
 intro H v c hO hv
 refine zva (RdB.str hO hv.rd.app') ?_
 exact hk H hO.left
set_option maxHeartbeats 2000000 in
theorem zDE(hn:n≤1114111)(hO:St H Γ)(hk:∀ H',St H' Γ→K (str (ob (zuF n))) H'):wCall P zSk [int n] H K:=by
 apply zAu; unfold zzu
 refine zDa hO (zYl _) ?_
 clear hO
 intro q H hO
 unfold zuF at hk
 refine zaa zMa ?_
 refine zma (fun h=>?_) (fun h=>?_)
 ·rw[if_pos (by omega)] at hk
  refine zva (zjB (by omega)) ?_
  refine zDa hO (zJx _ _ _) ?_
  clear hO
  intro p H hO
  exact zot hO rfl (by simp) hk
 rw[if_neg (by omega)] at hk
 refine zaa zMa ?_
 refine zma (fun h=>?_) (fun h=>?_)
 ·rw[if_pos (by omega)] at hk
  refine zaa (zct (b:=64) (by omega) (by omega)) ?_
  refine zaa (zCi (a:=192) (by omega)) ?_
  refine zva (zjB (by omega)) ?_
  refine zaa (zgv (b:=64) (by omega)) ?_
  refine zaa (zCi (a:=128) (by omega)) ?_
  refine zva (zjB (by omega)) ?_
  refine zDa hO (zrI _ _ _ _ _) ?_
  clear hO
  intro p H hO
  exact zot hO rfl (by simp) hk
 rw[if_neg (by omega)] at hk
 refine zaa zMa ?_
 refine zma (fun h=>?_) (fun h=>?_)
 ·rw[if_pos (by omega)] at hk
  refine zaa (zct (b:=4096) (by omega) (by omega)) ?_
  refine zaa (zCi (a:=224) (by omega)) ?_
  refine zva (zjB (by omega)) ?_
  refine zaa (zct (b:=64) (by omega) (by omega)) ?_
  refine zaa (zgv (b:=64) (by omega)) ?_
  refine zaa (zCi (a:=128) (by omega)) ?_
  refine zva (zjB (by omega)) ?_
  refine zaa (zgv (b:=64) (by omega)) ?_
  refine zaa (zCi (a:=128) (by omega)) ?_
  refine zva (zjB (by omega)) ?_
  refine zDa hO (zyL _ _ _ _) ?_
  clear hO
  intro p H hO
  exact zot hO rfl (by simp) hk
 ·rw[if_neg (by omega)] at hk
  refine zaa (zct (b:=262144) (by omega) (by omega)) ?_
  refine zaa (zCi (a:=240) (by omega)) ?_
  refine zva (zjB (by omega)) ?_
  refine zaa (zct (b:=4096) (by omega) (by omega)) ?_
  refine zaa (zgv (b:=64) (by omega)) ?_
  refine zaa (zCi (a:=128) (by omega)) ?_
  refine zva (zjB (by omega)) ?_
  refine zaa (zct (b:=64) (by omega) (by omega)) ?_
  refine zaa (zgv (b:=64) (by omega)) ?_
  refine zaa (zCi (a:=128) (by omega)) ?_
  refine zva (zjB (by omega)) ?_
  refine zaa (zgv (b:=64) (by omega)) ?_
  refine zaa (zCi (a:=128) (by omega)) ?_
  refine zva (zjB (by omega)) ?_
  refine zDa hO (zzL _ _ _ _ _) ?_
  clear hO
  intro p H hO
  exact zot hO rfl (by simp) hk
end J
set_option maxRecDepth 100000
namespace J
open Go Go.Ab
variable{H:Heap}{Γ Γ0 Γ2 Δ G L:List (Nat × Blk)}{K:VH}{v w x cv dv:Value}{xs ys zs bs b key ms:List Int}{j p q o n k:Nat}{e:Int}{cs cs':List Value}{l m:List UInt8}{ds:List (List UInt8)}
theorem zQw{size n0 least:Nat}{r:Nat × Nat}(h:zzv l size n0 least=some r):Rn r.1:=by
 unfold zzv at h
 split at h
 ·cases h
 ·split at h
  ·split at h
   ·cases h
   ·cases h; unfold Rn; simp only; omega
  ·cases h
theorem zZI{r:Nat × Nat}(h:o4 l=some r):Rn r.1:=by
 have:=zBi l 0
 unfold o4 at h
 split at h
 ·cases h; unfold Rn; simp only; omega
 split at h
 ·exact zQw h
 split at h
 ·exact zQw h
 split at h
 ·exact zQw h
 ·cases h
def fR(s:List UInt8):List UInt8:=match o4 s with
 | none=>s.take 1
 | some r=>ob (zuF (zSJ r.1))
def f4(ds:List (List UInt8)):List UInt8:=ds.flatMap fR
def zMf(l:List UInt8):List UInt8:=f4 (ztt l)
theorem zvF(s:List UInt8):(fR s).length≤4:=by
 unfold fR
 split
 ·rw[List.length_take]; omega
 ·rw[zYI]; exact zCE _
theorem zwF:∀ ds:List (List UInt8),(f4 ds).length≤4 * ds.length
 | []=>Nat.le_refl _
 | a::ds=>by
  have h1:=zwF ds
  have h2:=zvF a
  show (fR a++f4 ds).length≤_
  rw[List.length_append,List.length_cons]; omega
theorem zpC{y:Nat}(hy:y < ds.length):f4 (ds.take (y+1))=f4 (ds.take y)++fR ds[y]:=by
 rw[List.take_add_one,List.getElem?_eq_getElem hy]
 show List.flatMap fR (_++[ds[y]])=_
 rw[List.flatMap_append]
 show f4 _++(fR ds[y]++[])=_
 rw[List.append_nil]
theorem fr3(s:List UInt8):∃ (n:Nat) (bt:List UInt8) (br:Bool),zsg s=[int n,str bt,.bool br]∧n≤1114111∧(br=true→fR s=bt)∧(br=false→Rn n∧fR s=ob (zuF (zSJ n))):=by
 cases h:o4 s with
 | none=>exact⟨cb s 0,s.take 1,true,by unfold zsg; rw[h],by have:=zBi s 0; omega,fun _=>by unfold fR; rw[h],fun h=>by cases h⟩
 | some r=>exact⟨r.1,s.take r.2,false,by unfold zsg; rw[h],zRI h,fun h=>(by cases h),fun _=>⟨zZI h,by unfold fR; rw[h]⟩⟩
theorem zuK{n:Nat}(h:n < 2147483648):zSb .i64 (.int .i32 (n:Int)) H=some (int n,H):=by
 show some (Value.int .i64 (zxc .i64 (n:Int)),H)=_
 rw[ztn (by omega) (by omega)]
set_option maxHeartbeats 4000000 in
theorem zhv(hl:l.length≤1000000)(hO:St H Γ)(hk:∀ H',St H' Γ→K (str (zMf l)) H'):wCall P zff [str l] H K:=by
 apply zJs; unfold zpr
 refine zJr hl hO ?_
 clear hO
 intro H v hO hv
 have hsl:(ztt l).length≤l.length:=zht _ _
 unfold zMf at hk
 generalize ztt l=ds at *
 refine zva hv.lenSl ?_
 refine zQm (fun k l' H'=>∃ (y:Nat),y≤ds.length∧k=ds.length - y∧l'=[str [],str (f4 (ds.take y)),v,int ds.length,int y]∧St H' (Γ++zKa v (rnC ds))) _ _ ?_ ds.length _ _ ⟨0,by omega,by omega,rfl,hO⟩
 clear hO
 rintro k l' H ⟨y,hy,rfl,rfl,hO⟩
 unfold zHl
 try simp only[zia,zja]
 refine zaa zMa ?_
 refine zma (fun h=>?_) (fun h=>?_)
 ·have hy:y < ds.length:=by omega
  obtain⟨pv,cv,rfl,hΓ⟩:∃ pv cv,v=sl pv 0 ds.length cv∧zKa v (rnC ds)=[(pv,⟨rnC ds,true⟩)]:=by
   rcases hv with⟨_,h0,_⟩|⟨pv,rfl|rfl,_⟩
   ·omega
   ·exact⟨pv,_,rfl,rfl⟩
   ·exact⟨pv,_,rfl,rfl⟩
  rw[hΓ] at hO
  obtain⟨n,bt,br,r1,hn,r2,r3⟩:=fr3 ds[y]
  have hcells:=zsw (f:=zsg) (n:=3) (l:=ds) (i:=y) (o:=0) (m:=3) (fun x _=>(zSp x).2) hy (by omega)
  rw[r1] at hcells
  have hlen:=zwF (ds.take y)
  have hlr:=zvF ds[y]
  rw[List.length_take] at hlen
  refine zaa (zqb (by omega) (by omega)) ?_
  refine zua hO (Γ.length+0) (zwa rfl) (show _=[int n,str bt,.bool br] from by rw[show 0+(y:Int).toNat * 3=y * 3+0 by omega]; exact hcells) rfl (by omega) ?_
  rw[zSx]
  refine nw hO ?_
  clear hO
  intro p5 H hO
  refine sw hO 1 rfl rfl rfl rfl ?_
  clear hO
  intro H hO
  replace hO:St H (Γ++[(pv,⟨rnC ds,true⟩),(p5,⟨[int n,str bt,.bool br],true⟩)]):=hO
  refine zaa zba ?_
  refine ld hO 1 rfl (v:=.bool br) rfl ?_
  cases br with
  | true=>
   refine zvd rfl ?_
   refine zaa zba ?_
   refine ld hO 1 rfl (v:=str bt) rfl ?_
   rw[r2 rfl] at hlr
   refine zaa (zlC _ _ _ _ (by omega)) ?_
   refine zaa (zLc (by omega) (by omega)) ?_
   refine⟨ds.length - (y+1),by omega,y+1,by omega,rfl,?_,?_⟩
   ·rw[zpC hy,r2 rfl]; rfl
   ·rw[hΓ]; exact zji (A:=[(pv,⟨rnC ds,true⟩)]) hO
  | false=>
   obtain⟨hrn,r3⟩:=r3 rfl
   have hlow:=zoC hrn
   rw[r3] at hlr
   refine zDb rfl ?_
   refine zaa zba ?_
   refine ld hO 1 rfl (v:=int n) rfl ?_
   refine zva (zQI (by omega) (by omega)) ?_
   refine zOy ?_
   rw[zPw hrn]
   refine zva (zuK (by unfold Rn at hlow; omega)) ?_
   refine zDE (by unfold Rn at hlow; omega) hO ?_
   clear hO
   intro H hO
   refine zaa (zlC _ _ _ _ (by omega)) ?_
   refine zaa (zLc (by omega) (by omega)) ?_
   refine⟨ds.length - (y+1),by omega,y+1,by omega,rfl,?_,?_⟩
   ·rw[zpC hy,r3]; rfl
   ·rw[hΓ]; exact zji (A:=[(pv,⟨rnC ds,true⟩)]) hO
 ·have e:y=ds.length:=by omega
  subst e
  rw[List.take_of_length_le (Nat.le_refl _)]
  refine zZa rfl ?_
  try simp only[zia,zja]
  exact hk _ hO.left
theorem zaJ(l:List UInt8)(pos:Nat)(hp:pos < l.length):(Seal.foldR (bsl l) pos=fR (l.drop pos))∧(Utf8.decode (bsl l) pos).2=wid (l.drop pos):=by
 refine⟨?_,(zSB l pos 0 hp).2⟩
 have hne:l.drop pos≠[]:=by
  intro h
  have:=congrArg List.length h
  simp at this
  omega
 have hx:(bsl l).extract pos (bsl l).size=bsl (l.drop pos):=by
  apply ByteArray.ext
  apply Array.ext'
  show _=l.drop pos
  rw[ByteArray.data_extract,Array.toList_extract]
  simp only[List.extract,zQg]
  exact List.take_of_length_le (by simp)
 have ht:=Go.Lib.tail_decode (bsl l) pos 0
 rw[hx,Nat.add_zero] at ht
 obtain⟨d0,d1⟩:=zkF hne
 have hgo:Go.Lib.decodeGo (bsl (l.drop pos))=Utf8.decode (bsl (l.drop pos)) 0:=by
  unfold Go.Lib.decodeGo
  rw[if_neg (by rw[zQg]; intro h; exact hne (List.length_eq_zero_iff.1 h))]
 have hg:[(bsl l).get! pos]=(l.drop pos).take 1:=by
  have h1:(bsl l).get! pos=l[pos]:=by
   show (l.toArray)[pos]! = _
   rw[getElem!_pos _ _ (by simpa using hp)]; simp
  rw[h1,List.drop_eq_getElem_cons hp]; rfl
 unfold Seal.foldR Seal.brF
 rw[hx,hgo,← ht]
 cases ho:o4 (l.drop pos) with
 | none=>
  rw[d0 ho]
  rw[if_pos (by simp)]
  unfold fR
  rw[ho,hg]
 | some r=>
  rw[d1 r ho]
  have hfd:=zTI ho
  have hrn:=zZI ho
  rw[decide_eq_false (show ¬ ((r.1:Int)=65533∧r.2=1) by omega),if_neg (by simp)]
  unfold fR
  rw[ho,zPw hrn]
  exact zfH (zoC hrn)
theorem zby(l:List UInt8):∀ (b pos:Nat),pos≤l.length→Seal.foldG (bsl l) b pos=f4 (zXu b (l.drop pos))
 | 0,pos,_=>rfl
 | b+1,pos,hp=>by
  unfold Seal.foldG zXu
  by_cases h:pos < l.length
  ·obtain⟨h1,h2⟩:=zaJ l pos h
   have hne:l.drop pos≠[]:=by
    intro h
    have:=congrArg List.length h
    simp at this
    omega
   have hw:=zgt hne
   rw[List.length_drop] at hw
   rw[if_pos (show pos < (bsl l).size from h),if_neg hne,h1,h2,zby l b (pos+wid (l.drop pos)) (by omega),List.drop_drop]
   rfl
  ·have hnil:l.drop pos=[]:=List.drop_of_length_le (by omega)
   rw[if_neg (show ¬ pos < (bsl l).size from h),if_pos hnil]
   rfl
theorem zgH(l:List UInt8):Seal.foldF (bsl l)=bsl (zMf l):=by
 have:=zby l l.length 0 (Nat.zero_le _)
 rw[List.drop_zero] at this
 show (⟨(Seal.foldG (bsl l) l.length 0).toArray⟩:ByteArray)=_
 rw[this]; rfl
theorem ziv(hl:l.length≤1000000)(hk:K (str (zMf l)) H):wCall P zGg [str l] H K:=by
 refine znp (s:=bsl l) (by rw[zQg]; omega) ?_
 rw[zgH]; exact hk
theorem zkz(hl:l.length≤1000000)(hm:m.length≤1000000)(hk:K (.bool (zMf l == zMf m)) H):wCall P zXi [str l,str m] H K:=by
 apply zTs; unfold zBr
 refine ziv hl ?_
 refine ziv hm ?_
 refine zaa (show _=some (.bool (zMf l == zMf m)) from rfl) ?_
 exact hk
structure Tm where
 pr:List UInt8
 fl:Nat
 rm:Int
def tmC(t:Tm):List Value:=[str t.pr,zsb .u64 t.fl,int t.rm]
def zLr(m:Mf)(t:Tm):Int:=if ¬ zGa m then 131 else if zMf m.pr≠zMf t.pr then 143 else if m.ver < t.fl then 144 else if m.sz > t.rm then 145 else 0
theorem zBo{t:Tm}:zza (agg (tmC t))=tmC t:=rfl
theorem zcy{k:IntKind}{t:TypeId}{c:Bool}{a b:Nat}:(zpa P .lss t c).f (zsb k a) (zsb k b)=some (.bool (decide (a < b))):=by
 rw[zMa]
 rw[decide_eq_decide.2 (show ((a:Int) < (b:Int))↔a < b by omega)]
set_option maxHeartbeats 4000000 in
theorem zlz{m:Mf}{t:Tm}(ok:m.Ok)(hc:RdH Γ cv m.cks)(ht:t.pr.length≤1000000)(hO:St H Γ)(hk:∀ H',St H' Γ→K (int (zLr m t)) H'):wCall P zUi [agg (mfC m cv),agg (tmC t)] H K:=by
 apply zOs; unfold zur
 have h36:=zIe (cv:=cv) ok.dl
 have hpl:=ok.pl
 unfold zLr at hk
 rw[zye,zBo]
 refine nw hO.z ?_
 clear hO
 intro p1 H hO
 refine nw hO ?_
 clear hO
 intro p2 H hO
 replace hO:St H (Γ++[(p1,⟨mfC m cv,true⟩),(p2,⟨tmC t,true⟩)]):=hO
 refine lw hO 0 rfl (zra ok.dl) (by omega) ?_
 refine zNj ok hc.app hO ?_
 clear hO
 intro H hO
 refine zaa zGc ?_
 refine zTc (fun h=>?_) (fun h=>?_)
 ·have h:¬ zGa m:=by simpa using h
  rw[if_pos h] at hk
  exact hk H hO.left
 have h:zGa m:=by simpa using h
 rw[if_neg (by simpa using h)] at hk
 refine zaa zba ?_
 refine ld hO 0 rfl (v:=str m.pr) rfl ?_
 refine zaa zba ?_
 refine ld hO 1 rfl (v:=str t.pr) rfl ?_
 refine zkz (by omega) ht ?_
 refine zaa zGc ?_
 refine zTc (fun h=>?_) (fun h=>?_)
 ·have h:zMf m.pr≠zMf t.pr:=by simpa using h
  rw[if_pos h] at hk
  exact hk H hO.left
 have h:¬ zMf m.pr≠zMf t.pr:=by simpa using h
 rw[if_neg h] at hk
 refine zaa zba ?_
 refine ld hO 0 rfl (v:=zsb .u64 m.ver) rfl ?_
 refine zaa zba ?_
 refine ld hO 1 rfl (v:=zsb .u64 t.fl) rfl ?_
 refine zaa zcy ?_
 refine zma (fun h=>?_) (fun h=>?_)
 ·rw[if_pos h] at hk
  exact hk H hO.left
 rw[if_neg h] at hk
 refine zaa zba ?_
 refine ld hO 0 rfl (v:=int m.sz) rfl ?_
 refine zaa zba ?_
 refine ld hO 1 rfl (v:=int t.rm) rfl ?_
 refine zaa zTb ?_
 refine zma (fun h=>?_) (fun h=>?_)
 ·rw[if_pos h] at hk
  exact hk H hO.left
 ·rw[if_neg (by omega)] at hk
  exact hk H hO.left
set_option maxHeartbeats 4000000 in
theorem zio{m:Mf}{t:Tm}(ok:m.Ok)(hc:RdH Γ cv m.cks)(ht:t.pr.length≤1000000)(hO:St H Γ)(hk:∀ H',St H' Γ→K (int (zLr m t)) H'):wCall P zSh [agg (mfC m cv),agg (tmC t)] H K:=by
 apply zvq; unfold zqp
 have h36:=zIe (cv:=cv) ok.dl
 have hpl:=ok.pl
 unfold zLr at hk
 rw[zye,zBo]
 refine nw hO.z ?_
 clear hO
 intro p1 H hO
 refine nw hO ?_
 clear hO
 intro p2 H hO
 replace hO:St H (Γ++[(p1,⟨mfC m cv,true⟩),(p2,⟨tmC t,true⟩)]):=hO
 refine lw hO 0 rfl (zra ok.dl) (by omega) ?_
 refine zWc ok hc.app hO ?_
 clear hO
 intro H hO
 refine zaa zGc ?_
 refine zTc (fun h=>?_) (fun h=>?_)
 ·have h:¬ zGa m:=by simpa using h
  rw[if_pos h] at hk
  exact hk H hO.left
 have h:zGa m:=by simpa using h
 rw[if_neg (by simpa using h)] at hk
 refine zaa zba ?_
 refine ld hO 0 rfl (v:=str m.pr) rfl ?_
 have hO1:=hO
 refine zhv (by omega) hO ?_
 clear hO
 intro H2 hO
 refine zaa zba ?_
 refine ld hO 1 rfl (v:=str t.pr) rfl ?_
 refine⟨zcb hO1 (Γ.length+1) (zwa rfl) hO (Γ.length+1) (zwa rfl) rfl,?_⟩
 refine zhv ht hO ?_
 clear hO
 intro H hO
 refine zaa (show _=some (.bool (!(zMf m.pr == zMf t.pr))) from rfl) ?_
 refine zTc (fun h=>?_) (fun h=>?_)
 ·have h:zMf m.pr≠zMf t.pr:=by simpa using h
  rw[if_pos h] at hk
  exact hk H hO.left
 have h:¬ zMf m.pr≠zMf t.pr:=by simpa using h
 rw[if_neg h] at hk
 refine zaa zba ?_
 refine ld hO 0 rfl (v:=zsb .u64 m.ver) rfl ?_
 refine zaa zba ?_
 refine ld hO 1 rfl (v:=zsb .u64 t.fl) rfl ?_
 refine zaa zcy ?_
 refine zma (fun h=>?_) (fun h=>?_)
 ·rw[if_pos h] at hk
  exact hk H hO.left
 rw[if_neg h] at hk
 refine zaa zba ?_
 refine ld hO 0 rfl (v:=int m.sz) rfl ?_
 refine zaa zba ?_
 refine ld hO 1 rfl (v:=int t.rm) rfl ?_
 refine zaa zTb ?_
 refine zma (fun h=>?_) (fun h=>?_)
 ·rw[if_pos h] at hk
  exact hk H hO.left
 ·rw[if_neg (by omega)] at hk
  exact hk H hO.left
end J
