/- texts of the proof, one behind the other -/
import Derived.Test.YtmnbcjhjkahajaaDoorUF
set_option linter.unusedVariables false
set_option linter.unusedSimpArgs false
set_option linter.unusedSectionVars false
set_option maxRecDepth 100000
namespace J
open Go Go.Ab
variable{H:Heap}{Γ Γ0 Γ2 Δ G L:List (Nat × Blk)}{K:VH}{v w x cv dv:Value}{xs ys zs bs b key ms r:List Int}{j p q o n k mx:Nat}{e:Int}{cs cs':List Value}{l:List UInt8}{m a:Mf}{cks:List (List Int)}
theorem zQh(ok:m.Ok)(h:zlb m):(zZa key m).length=(headA m).length+32∧(zZa key m).length≤2228∧84≤(zZa key m).length∧(headA m).length=(zmb m).length+4:=by
 have h1:=zOh ok h
 obtain⟨h2,h3,h4⟩:=zsp ok h
 have h5:(zZa key m).length=(headA m).length+32:=by simp only[zZa,List.length_append,zDd]
 omega
theorem zTx:(headA m++r).take 2=[66,85]∧((headA m++r).take 4).drop 2=leN 2 (zmb m).length∧4≤(headA m++r).length∧(headA m).drop 4=zmb m:=by
 have h:headA m=[66,85]++[(((zmb m).length % 256:Nat):Int),(((zmb m).length / 256 % 256:Nat):Int)]++zmb m:=by unfold headA; rw[zHB]
 rw[h,zHB]
 refine⟨rfl,rfl,by simp,rfl⟩
theorem zfo(ok:m.Ok)(h:zlb m)(r:List Int):zSe (headA m++r)=(((zZa key m).length:Int),0):=by
 obtain⟨h1,h2,h3,h4⟩:=zTx (m:=m) (r:=r)
 obtain⟨b1,b2,b3,b4⟩:=zQh (key:=key) ok h
 obtain⟨m1,m2,m3⟩:=zsp ok h
 unfold zSe
 rw[h1,h2,zhi 2 _ (by omega),if_neg (by simp; simpa using h3),if_neg (by omega)]
 congr 1
 omega
theorem zhl(ok:m.Ok)(h:zlb m)(r:List Int):zpc key (zZa key m++r)=(m,((zZa key m).length:Int),0):=by
 obtain⟨h1,h2,h3,h4⟩:=zTx (m:=m) (r:=zNl key (headA m)++r)
 obtain⟨b1,b2,b3,b4⟩:=zQh (key:=key) ok h
 have e:zZa key m++r=headA m++(zNl key (headA m)++r):=by simp[zZa]
 have hl:zSe (zZa key m++r)=(((zZa key m).length:Int),0):=by rw[e]; exact zfo ok h _
 rw[zFq hl (by simp)]
 have t1:(zZa key m++r).take ((zZa key m).length - 32)=headA m:=by
  rw[e,List.take_append_of_le_length (by omega),show (zZa key m).length - 32=(headA m).length by omega,List.take_length]
 have t2:((zZa key m++r).take (zZa key m).length).drop ((zZa key m).length - 32)=zNl key (headA m):=by
  rw[List.take_append_of_le_length (by omega),List.take_length,show (zZa key m).length - 32=(headA m).length by omega]
  unfold zZa
  rw[List.drop_left]
 rw[t1,t2,h4,zpt ok h]
 rw[if_neg (fun h=>h rfl),if_neg (by simp)]
theorem zUx(ok:m.Ok)(h:zlb m){t:Nat}(ht:t < (zZa key m).length):zpc key ((zZa key m).take t)=(m0,0,141):=by
 by_cases h4:t < 4
 ·refine zbo ?_
  unfold zSe
  rw[if_pos (.inl (by rw[List.length_take]; omega))]
 ·have e:((zZa key m).take t).take 4=(zZa key m).take 4:=by rw[List.take_take,Nat.min_eq_left (by omega)]
  have e2:((zZa key m).take t).take 2=(zZa key m).take 2:=by rw[List.take_take,Nat.min_eq_left (by omega)]
  have hl:=zfo (key:=key) ok h (zNl key (headA m))
  have hl2:zSe ((zZa key m).take t)=zSe (zZa key m):=by
   unfold zSe
   rw[e,e2,List.length_take]
   have h3:((min t (zZa key m).length < 4∨(zZa key m).take 2≠[66,85])↔((zZa key m).length < 4∨(zZa key m).take 2≠[66,85])):=by
    constructor <;> rintro (h|h)
    ·left; omega
    ·right; exact h
    ·left; omega
    ·right; exact h
   simp only[h3]
  refine zco (n:=(zZa key m).length) ?_ (by rw[List.length_take]; omega)
  rw[hl2]; exact hl
theorem zBv{c:Int}(hc:c≠66):zpc key (c::r)=(m0,0,141):=by
 refine zbo ?_
 unfold zSe
 rw[if_pos]
 right
 intro h
 match r,h with
 | a::r,h=>injection h with h1 _; exact hc h1
theorem ztp{key b:List Int}(hb:By b)(hl:b.length≤1000000):((zpc key b).2.2=0∧zlb (zpc key b).1∧(zpc key b).1.Ok∧(zpc key b).2.1=((zZa key (zpc key b).1).length:Int)∧(zZa key (zpc key b).1).length≤b.length∧b.take (zZa key (zpc key b).1).length=zZa key (zpc key b).1) ∨
  ((zpc key b).1=m0∧(zpc key b).2.1=0∧((zpc key b).2.2=141∨(zpc key b).2.2=142∨(zpc key b).2.2=131)):=by
 rcases zgl b with h0|⟨N,h0,g1,g2,g3,g4,g5⟩
 ·rw[zbo h0]; exact .inr ⟨rfl,rfl,.inl rfl⟩
 by_cases hN:b.length < N
 ·rw[zco h0 hN]; exact .inr ⟨rfl,rfl,.inl rfl⟩
 rw[zFq h0 (by omega)]
 by_cases hm:zNl key (b.take (N - 32))≠(b.take N).drop (N - 32)
 ·rw[if_pos hm]; exact .inr ⟨rfl,rfl,.inr (.inl rfl)⟩
 rw[if_neg hm]
 have hps:By ((b.take (N - 32)).drop 4):=By.drop (By.take hb)
 have hpl:((b.take (N - 32)).drop 4).length≤9000:=by rw[List.length_drop,List.length_take]; omega
 have hpl2:((b.take (N - 32)).drop 4).length=N - 36:=by rw[List.length_drop,List.length_take]; omega
 rcases zNh ((b.take (N - 32)).drop 4) with hz|hz
 ·rw[if_neg (fun h=>h hz)]
  left
  have hok:=zdo hps hpl
  obtain⟨p1,p2⟩:=zwz hps (m:=(zSb ((b.take (N - 32)).drop 4)).1) (Prod.ext rfl hz)
  simp only
  generalize (zSb ((b.take (N - 32)).drop 4)).1=M at *
  have hA:headA M=b.take (N - 32):=by
   unfold headA
   rw[p2,hpl2]
   have e1:leN 2 (N - 36)=(b.take 4).drop 2:=by
    have h5:N - 36=leV ((b.take 4).drop 2):=by omega
    rw[h5]
    have:=zDq ((b.take 4).drop 2) (By.drop (By.take hb))
    rw[show ((b.take 4).drop 2).length=2 by rw[List.length_drop,List.length_take]; omega] at this
    exact this
   rw[e1,← g4]
   have e2:b.take 2++(b.take 4).drop 2=b.take 4:=by
    conv=>rhs; rw[← List.take_append_drop 2 (b.take 4)]
    rw[List.take_take,Nat.min_eq_left (by omega)]
   rw[e2]
   conv=>rhs; rw[← List.take_append_drop 4 (b.take (N - 32))]
   rw[List.take_take,Nat.min_eq_left (by omega)]
  have hB:zZa key M=b.take N:=by
   unfold zZa
   rw[hA,Classical.not_not.1 hm]
   conv=>rhs; rw[← List.take_append_drop (N - 32) (b.take N)]
   rw[List.take_take,Nat.min_eq_left (by omega)]
  have hlen:(zZa key M).length=N:=by rw[hB,List.length_take]; omega
  exact⟨trivial,p1,hok,by rw[hlen],by omega,by rw[hlen,hB]⟩
 ·rw[hz,if_pos (by simp)]; exact .inr ⟨rfl,rfl,.inr (.inr rfl)⟩
def mPl:Mf:=⟨[98,111,111,116,49],7,65,64,z32,[z32,z32]⟩
theorem zzz:zel [98,111,111,116,49]=0:=by kernel_rfl
theorem zgo:mPl.Ok:=⟨rfl,zNn,(by intro x h; simp[mPl] at h; rw[h]; rfl),(by intro x h; simp[mPl] at h; rw[h]; exact zNn),by decide,by decide,by decide,by decide,by decide⟩
theorem zpk:zlb mPl:=⟨zzz,by decide,by decide,by decide,by decide,by decide,by decide,by decide,by decide,by decide⟩
theorem zhE(H:Heap):(zld P 27).f (int 2) (int 2) H=some (sl H.next 0 2 65,H.push (hsC [z32,z32])):=by kernel_rfl
theorem ziE(a:Option Addr)(n c:Nat):(zbb P 29).f [(0,.string ⟨#[98,111,111,116,49]⟩),(1,.int .u64 7),(2,int 65),(3,int 64),(5,.slice a n c)]=some (agg (mfC mPl (.slice a n c))):=by kernel_rfl
theorem zup(hO:St H Γ)(hk:∀ H' cv,St H' (Γ++zMa cv (hsC mPl.cks))→RdH (zMa cv (hsC mPl.cks)) cv mPl.cks→K (agg (mfC mPl cv)) H'):wCall P zIe [] H K:=by
 apply zro; unfold zpn
 rw[zcM]
 refine nw hO.z ?_
 clear hO
 intro p0 H hO
 refine zya hO (zhE _) ?_
 clear hO
 intro q H hO
 refine zaa (ziE _ _ _) ?_
 refine zsa hO (Γ.length+0) (zHa (zxa rfl)) (by rfl) (by rfl) (zqb rfl) ?_
 clear hO
 intro H hO
 rw[List.set_append_left _ _ (by simp),Go.Ab.set_r] at hO
 refine zAa hO (Γ.length+0) (zHa (zxa rfl)) (by rfl) (by omega) ?_
 exact hk H (sl q 0 2 65) (St.mid hO) (.inr ⟨q,65,0,true,rfl,rfl⟩)
theorem zSC(H:Heap):(zga P 22 3).f [(0,.int .u8 107),(1,.int .u8 101),(2,.int .u8 121)] H=some (sl H.next 0 3 3,H.push (by8 [107,101,121])):=by kernel_rfl
set_option maxHeartbeats 4000000 in
theorem zii(hO:St H Γ)(hk:∀ H',St H' Γ→K (.bool true) H'):wCall P zFb [] H K:=by
 apply zHj; unfold zuh
 have hkey:By [107,101,121]:=by intro x hx; simp at hx; omega
 refine zya hO (zSC _) ?_
 clear hO
 intro q1 H hO
 refine kp hO 0 rfl (by omega) ?_
 refine zup hO ?_
 clear hO
 intro H c1 hO h1
 refine zPh (key:=[107,101,121]) zgo hO (zmz (k:=0) (Γ:=Γ) (L:=[(q1,⟨by8 [107,101,121],true⟩)]) rfl (.inr rfl) rfl).app h1.app' hkey (by simp) (fun h=>absurd zpk h) ?_
 clear hO
 intro _ H v2 c2 hO o2
 have hlen:(zZa [107,101,121] mPl).length=153:=by
  have:=(zQh (key:=[107,101,121]) zgo zpk)
  have h2:=zOh zgo zpk
  have h3:mPl.pr.length=5:=rfl
  have h4:mPl.cks.length=2:=rfl
  omega
 refine zaa zrq ?_
 refine zaa zsq ?_
 replace hO:St H (Γ++zMa v2 c2):=St.mid (St.mid hO)
 refine zya hO (zSC _) ?_
 clear hO
 intro q3 H hO
 refine kp hO 0 rfl (by omega) ?_
 have hopen:zpc [107,101,121] (zZa [107,101,121] mPl)=(mPl,153,0):=by
  have:=zhl (key:=[107,101,121]) zgo zpk []
  rw[List.append_nil,hlen] at this
  exact this
 refine zcf (key:=[107,101,121]) (b:=zZa [107,101,121] mPl) hO (zmz (k:=0) (L:=[(q3,⟨by8 [107,101,121],true⟩)]) rfl (.inr rfl) rfl) (o2.rd.app'.app) hkey (zRb (zok zgo) zYn) (by simp) (by rw[hlen]; omega) ?_
 rw[hopen]
 clear hO
 intro H c3 hO h3
 refine zaa (show zmd 0 _=some (agg (mfC mPl c3)) from rfl) ?_
 refine zaa (show zmd 1 _=some (int 153) from rfl) ?_
 refine zaa (show zmd 2 _=some (int 0) from rfl) ?_
 rw[zcM]
 refine zVa hO ?_
 clear hO
 intro p3 H hO
 refine zsa hO (_+0) (zxa rfl) (by rfl) (by rfl) (zqb h3.one) ?_
 clear hO
 intro H hO
 replace hO:=hO.set_r
 repeat (first|refine oi ?_|refine ow ?_|refine wy ?_|refine wn ?_|refine wt ?_|refine wf' ?_|refine cy ?_|refine cn ?_)
 refine zra (o2.lenSl) ?_
 rw[hlen]
 repeat (first|refine oi ?_|refine ow ?_|refine wy ?_|refine wn ?_|refine wt ?_|refine wf' ?_|refine cy ?_|refine cn ?_)
 refine zAa hO (_+0) (zxa rfl) (by rfl) (by omega) ?_
 refine zup hO ?_
 intro H2 c4 hO2 h4
 refine⟨zjc hO (_+0) (zxa rfl) hO2 (_+0) (zHa (zxa rfl)) (zYd h3.simple),?_⟩
 refine zhg zgo zgo (h3.app'.app.app) h4.app' hO2 ?_
 intro H3 hO3
 rw[decide_eq_true (zgg.2 rfl)]
 refine zaa (zIa (by decide)) ?_
 exact hk H3 hO3.left.left.left.left.left
end J
set_option maxRecDepth 100000
namespace J
open Go Go.Ab
variable{H:Heap}{Γ Γ0 Γ2 Δ G L:List (Nat × Blk)}{K:VH}{v w x cv dv iv:Value}{xs ys zs bs b key ms r image:List Int}{j p q o n k mx:Nat}{e cut:Int}{cs cs':List Value}{l:List UInt8}{m a:Mf}{cks:List (List Int)}
structure Mf.Wf (m:Mf):Prop where
 dl:m.dg.length=32
 db:By m.dg
 cl:∀ x ∈ m.cks,x.length=32
 cb:∀ x ∈ m.cks,By x
 ver:m.ver < 18446744073709551616
 sz:-9223372036854775808≤m.sz∧m.sz≤9223372036854775807
 ck:-9223372036854775808≤m.ck∧m.ck≤9223372036854775807
theorem Mf.Wf.ok(h:m.Wf)(h1:m.pr.length≤300)(h2:m.cks.length≤100):m.Ok:=⟨h.dl,h.db,h.cl,h.cb,h.ver,h.sz,h.ck,by omega,by omega⟩
theorem zvp(hd:m.dg.length=32)(hc:RdH Γ cv m.cks)(hO:St H Γ)(hk:∀ H',St H' Γ→K (.bool (decide (300 < m.pr.length∨100 < m.cks.length))) H'):wCall P zHe [agg (mfC m cv)] H K:=by
 apply zpo; unfold znn
 have h36:=zKh (m:=m) (cv:=cv) hd
 rw[zdd]
 refine nw hO.z ?_
 clear hO
 intro p1 H hO
 refine zaa zda ?_
 refine ld hO 0 rfl (v:=str m.pr) rfl ?_
 refine zra zcl ?_
 refine zaa zHb ?_
 refine zia (fun h=>?_) (fun h=>?_)
 ·refine zaa (zIa h) ?_
  have:=hk H hO.left
  rw[decide_eq_true (show 300 < m.pr.length∨100 < m.cks.length by omega)] at this
  exact this
 ·refine zaa zda ?_
  refine ld hO 0 rfl h36 ?_
  refine zra hc.lenSl ?_
  refine zaa zHb ?_
  refine zaa (zab h) ?_
  have:=hk H hO.left
  rw[decide_eq_decide.2 (show (300 < m.pr.length∨100 < m.cks.length)↔((100:Int) < (m.cks.length:Int)) by omega)] at this
  exact this
theorem zwB{a b c:Value}:zmd 0 (.tuple [a,b,c].toArray)=some a:=rfl
theorem zxB{a b c:Value}:zmd 1 (.tuple [a,b,c].toArray)=some b:=rfl
theorem zyB{a b c:Value}:zmd 2 (.tuple [a,b,c].toArray)=some c:=rfl
theorem zwu(hb:By b)(hl:b.length≤1000000):(zpc key b).1.Ok:=by
 rcases ztp (key:=key) hb hl with h|h
 ·exact h.2.2.1
 ·rw[h.1]; exact zMx
set_option maxHeartbeats 4000000 in
theorem opens_main(hO:St H G)(hv:RdB G v key)(hb:By key)(hw:RdB G w b)(hbb:By b)(hst:b≠[]→Stay G w):wCall P zPf [v,w] H fun v _=>v=.bool true:=by
 apply zEj; unfold zrh
 refine zii hO ?_
 clear hO
 intro H hO
 refine zaa zLg ?_
 refine zOf rfl ?_
 refine zva (fun l' H'=>l'=[v,w]∧H=H'∧key.length≤200∧b.length≤3000) ?_ ?_
 ·refine zra hv.lenSl ?_
  refine zaa zHb ?_
  refine zia (fun h=>?_) (fun h=>?_)
  ·repeat (first|refine oi ?_|refine ow ?_|refine wy ?_|refine wn ?_|refine wt ?_|refine wf' ?_|refine cy ?_|refine cn ?_)
   rfl
  ·refine zra hw.lenSl ?_
   refine zaa zHb ?_
   refine zaa (zab h) ?_
   refine zia (fun h2=>?_) (fun h2=>?_)
   ·rfl
   ·exact⟨rfl,rfl,by omega,by omega⟩
 rintro l' H' ⟨rfl,rfl,g1,g2⟩
 try simp only[zea,zfa]
 have hok:=zwu (key:=key) hbb (by omega)
 refine zcf hO hv hw hb hbb (by omega) (by omega) ?_
 clear hO
 intro H c1 hO r1
 refine zaa zwB ?_
 refine zaa zxB ?_
 refine zaa zyB ?_
 rw[zcM]
 refine zVa hO ?_
 clear hO
 intro p5 H hO
 refine zsa hO (_+0) (zxa rfl) (by rfl) (zwa hok.dl) (zqb r1.one) ?_
 clear hO
 intro H hO
 replace hO:=hO.set_r
 refine zeo hO hv.app.app hw.app.app (fun h=>(hst h).app.app) hb hbb (by omega) (by omega) ?_
 clear hO
 intro H c2 hO r2
 refine zaa zwB ?_
 refine zaa zxB ?_
 refine zaa zyB ?_
 refine zVa hO ?_
 clear hO
 intro p8 H hO
 refine zsa hO (_+0) (zxa rfl) (by rfl) (zwa hok.dl) (zqb r2.one) ?_
 clear hO
 intro H hO
 replace hO:=hO.set_r
 refine zhj hO hw.app.app.app.app hbb (by omega) ?_
 clear hO
 intro H hO
 refine zaa zrq ?_
 refine zaa zsq ?_
 refine zig hO hw.app.app.app.app hbb (by omega) ?_
 refine zaa zrq ?_
 refine zaa zsq ?_
 refine zAa hO (_+0) (zHa (zHa (zxa rfl))) (zwa hok.dl) (by omega) ?_
 refine zAa hO (_+0) (zxa rfl) (zwa hok.dl) (by omega) ?_
 refine zhg hok hok (r1.app'.app.app.app) (r2.app'.app) hO ?_
 clear hO
 intro H hO
 rw[decide_eq_true (zgg.2 rfl)]
 refine zlh rfl ?_
 refine zaa zRa ?_
 refine zaa ztd ?_
 refine zhb rfl ?_
 refine zaa zRa ?_
 refine zaa (zIa rfl) ?_
 refine zhb rfl ?_
 refine zaa zRa ?_
 refine zaa (zIa rfl) ?_
 refine zhb rfl ?_
 refine zaa zRa ?_
 refine zaa (zIa rfl) ?_
 rw[decide_eq_true rfl]
set_option maxHeartbeats 4000000 in
theorem only_main(hO:St H G)(hv:RdB G v key)(hb:By key)(hw:RdB G w b)(hbb:By b):wCall P zNg [v,w] H fun v _=>v=.bool true:=by
 apply zNk; unfold zyi
 refine zii hO ?_
 clear hO
 intro H hO
 refine zaa zLg ?_
 refine zOf rfl ?_
 refine zva (fun l' H'=>l'=[v,w]∧H=H'∧key.length≤200∧b.length≤3000) ?_ ?_
 ·refine zra hv.lenSl ?_
  refine zaa zHb ?_
  refine zia (fun h=>?_) (fun h=>?_)
  ·repeat (first|refine oi ?_|refine ow ?_|refine wy ?_|refine wn ?_|refine wt ?_|refine wf' ?_|refine cy ?_|refine cn ?_)
   rfl
  ·refine zra hw.lenSl ?_
   refine zaa zHb ?_
   refine zaa (zab h) ?_
   refine zia (fun h2=>?_) (fun h2=>?_)
   ·rfl
   ·exact⟨rfl,rfl,by omega,by omega⟩
 rintro l' H' ⟨rfl,rfl,g1,g2⟩
 try simp only[zea,zfa]
 have hok:=zwu (key:=key) hbb (by omega)
 refine zcf hO hv hw hb hbb (by omega) (by omega) ?_
 clear hO
 intro H c1 hO r1
 refine zaa zwB ?_
 refine zaa zxB ?_
 refine zaa zyB ?_
 rw[zcM]
 refine zVa hO ?_
 clear hO
 intro p5 H hO
 refine zsa hO (_+0) (zxa rfl) (by rfl) (zwa hok.dl) (zqb r1.one) ?_
 clear hO
 intro H hO
 replace hO:=hO.set_r
 rcases ztp (key:=key) hbb (show b.length≤1000000 by omega) with⟨e0,hr,_,en,hle,htk⟩|⟨em,en,ee⟩
 ·refine zaa zYa ?_
  refine zVc (by omega) ?_
  generalize (zpc key b).1=M at *
  refine zAa hO (_+0) (zxa rfl) (zwa hok.dl) (by omega) ?_
  refine zbf hok hO hv.app.app (r1.app'.app) hb (by omega) (fun h=>absurd hr h) ?_
  clear hO
  intro _ H v3 c3 hO o3
  refine zaa zrq ?_
  refine zaa zsq ?_
  refine zaa zRa ?_
  refine zhb rfl ?_
  refine zra o3.lenSl ?_
  rw[en]
  refine zaa zRa ?_
  refine zaa (zIa rfl) ?_
  refine zhb rfl ?_
  refine zra hw.lenSl ?_
  refine zaa zen ?_
  refine zaa (zIa rfl) ?_
  refine zhb (by omega) ?_
  obtain⟨v4,e4,i4⟩:=zOe hw (n:=(zZa key M).length) hle
  refine zaa e4 ?_
  refine zra (RdB.str hO (i4 _ hw).app.app.app) ?_
  refine zra (RdB.str hO o3.rd.app') ?_
  rw[htk]
  refine zaa (zTy _ _ _) ?_
  refine zaa (zIa (by omega)) ?_
  rfl
 ·refine zaa zYa ?_
  refine zhb (by omega) ?_
  rw[en]
  refine zaa zRa ?_
  refine zhb rfl ?_
  refine zAa hO (_+0) (zxa rfl) (zwa hok.dl) (by omega) ?_
  refine zaa bM0 ?_
  refine zhg hok zMx (r1.app'.app) RdH.nil hO ?_
  clear hO
  intro H hO
  rw[decide_eq_true (zgg.2 em)]
  refine zaa (zIa rfl) ?_
  refine zlh rfl ?_
  refine zaa zRa ?_
  rcases ee with h|h|h
  ·refine zhb h ?_
   repeat (first|refine oi ?_|refine ow ?_|refine wy ?_|refine wn ?_|refine wt ?_|refine wf' ?_|refine cy ?_|refine cn ?_)
   rfl
  ·refine zVc (by omega) ?_
   refine zaa zRa ?_
   refine zaa (zab (by omega)) ?_
   refine zhb h ?_
   repeat (first|refine oi ?_|refine ow ?_|refine wy ?_|refine wn ?_|refine wt ?_|refine wf' ?_|refine cy ?_|refine cn ?_)
   rfl
  ·refine zVc (by omega) ?_
   refine zaa zRa ?_
   refine zaa (zab (by omega)) ?_
   refine zVc (by omega) ?_
   refine zaa zRa ?_
   refine zaa (zab (by omega)) ?_
   refine zaa ztd ?_
   rw[decide_eq_true h]
end J
set_option maxRecDepth 100000
namespace J
open Go Go.Ab
variable{H:Heap}{Γ Γ0 Γ2 Δ G L:List (Nat × Blk)}{K:VH}{v w x cv dv iv:Value}{xs ys zs bs b key ms r image:List Int}{j p q o n k mx:Nat}{e cut:Int}{cs cs':List Value}{l:List UInt8}{m a:Mf}{cks:List (List Int)}
theorem zJD(H:Heap):(zga P 22 3).f [(0,.int .u8 1),(1,.int .u8 2),(2,.int .u8 3)] H=some (sl H.next 0 3 3,H.push (by8 [1,2,3])):=by kernel_rfl
theorem zCv:∃ r,zZa key m=66::r:=⟨_,rfl⟩
theorem zVx{x:Int}(hv:OwnB v (x::xs) cs):∃ (p c:Nat),v=sl p 0 (xs.length+1) c∧zMa v cs=[(p,⟨cs,true⟩)]∧cs[0]?=some (.int .u8 x)∧0 < cs.length∧∀ y,zMa v (cs.set 0 (.int .u8 y))=[(p,⟨cs.set 0 (.int .u8 y),true⟩)]∧OwnB v (y::xs) (cs.set 0 (.int .u8 y)):=by
 rcases hv with⟨_,h,_⟩|⟨p,hv,h2,h3,h4⟩
 ·cases h
 match cs,h2,h3,h4 with
 | c0::cs,h2,h3,h4=>
 have h2':c0::cs.take xs.length=.int .u8 x::by8 xs:=h2
 injection h2' with e1 e2
 have h4':cs.all zpb=true:=by
  simp only[List.all_cons,Bool.and_eq_true] at h4; exact h4.2
 have own:∀ y,(v=sl p 0 (xs.length+1) 2∨(v=sl p 0 (xs.length+1) 3∧(c0::cs).length=xs.length+1))→OwnB v (y::xs) ((c0::cs).set 0 (.int .u8 y)):=fun y hv=>by
  refine .inr ⟨p,?_,?_,by simpa using h3,?_⟩
  ·rcases hv with hv|⟨hv,hl⟩
   ·exact .inl hv
   ·exact .inr ⟨hv,by simpa using hl⟩
  ·show .int .u8 y::cs.take xs.length=.int .u8 y::by8 xs
   rw[e2]
  ·show (true && cs.all zpb)=true
   rw[h4']; rfl
 rcases hv with rfl|⟨rfl,hl⟩
 ·exact⟨p,2,rfl,rfl,by rw[e1]; rfl,by simp,fun y=>⟨rfl,own y (.inl rfl)⟩⟩
 ·exact⟨p,3,rfl,rfl,by rw[e1]; rfl,by simp,fun y=>⟨rfl,own y (.inr ⟨rfl,hl⟩)⟩⟩
theorem zds{q:Nat}:OwnB (sl q 0 0 3) [] []:=.inr ⟨q,.inr ⟨rfl,rfl⟩,rfl,Nat.zero_le _,rfl⟩
set_option maxHeartbeats 8000000 in
theorem short_main(wf:m.Wf)(hO:St H G)(hv:RdB G v key)(hb:By key)(hc:RdH G cv m.cks):wCall P zQf [v,agg (mfC m cv),int cut] H fun v _=>v=.bool true:=by
 apply zFj; unfold zsh
 rw[zdd]
 refine nw hO.z ?_
 clear hO
 intro p4 H hO
 replace hO:St H (G++[(p4,⟨mfC m cv,true⟩)]):=hO
 refine zii hO ?_
 clear hO
 intro H hO
 refine zaa zLg ?_
 refine zOf rfl ?_
 refine zva (fun l' H'=>l'=[v,int cut,ptr p4 0]∧St H' (G++[(p4,⟨mfC m cv,true⟩)])∧(m.pr.length≤300∧m.cks.length≤100)∧key.length≤200) ?_ ?_
 ·refine lw hO 0 rfl (zwa wf.dl) (by omega) ?_
  refine zvp wf.dl hc.app hO ?_
  clear hO
  intro H hO
  refine zia (fun h=>?_) (fun h=>?_)
  ·repeat (first|refine oi ?_|refine ow ?_|refine wy ?_|refine wn ?_|refine wt ?_|refine wf' ?_|refine cy ?_|refine cn ?_)
   rfl
  ·refine zra hv.lenSl ?_
   refine zaa zHb ?_
   refine zaa (zab h) ?_
   refine zia (fun h2=>?_) (fun h2=>?_)
   ·rfl
   ·exact⟨rfl,hO,by omega,by omega⟩
 clear hO
 rintro l' H ⟨rfl,hO,⟨g1,g2⟩,g3⟩
 try simp only[zea,zfa]
 have ok:=wf.ok g1 g2
 refine lw hO 0 rfl (zwa wf.dl) (by omega) ?_
 refine zPh ok hO hv.app hc.app hb (by omega) ?_ ?_
 ·clear hO
  intro hr H hO
  refine zaa zrq ?_
  refine zaa zsq ?_
  refine zaa zYa ?_
  refine zhb (by omega) ?_
  refine zaa zRa ?_
  refine zhb rfl ?_
  refine zra (show lenSl zua H=some (int 0,H) from rfl) ?_
  refine zaa zRa ?_
  refine zaa (zIa rfl) ?_
  rfl
 ·clear hO
  intro hr H v1 c1 hO o1
  obtain⟨b1,b2,b3,b4⟩:=zQh (key:=key) ok hr
  have hbb:By (zZa key m):=zRb (zok ok) zYn
  refine zaa zrq ?_
  refine zaa zsq ?_
  refine zaa zYa ?_
  refine zVc (by omega) ?_
  refine zra o1.lenSl ?_
  refine zaa (zMb (by omega) (by omega)) ?_
  refine zra zBA ?_
  refine zra zgC ?_
  obtain⟨t,ht⟩:∃ t:Nat,max 0 (min cut (((zZa key m).length:Int) - 1))=t:=⟨(max 0 (min cut (((zZa key m).length:Int) - 1))).toNat,by omega⟩
  have htl:t < (zZa key m).length:=by omega
  rw[ht]
  have hr1:RdB ((G++[(p4,(⟨mfC m cv,true⟩:Blk))])++zMa v1 c1) v1 (zZa key m):=o1.rd.app'
  obtain⟨v2,e2,i2⟩:=zOe hr1 (n:=t) (by omega)
  refine zaa e2 ?_
  replace i2:=i2 _ hr1
  have hcut:=zUx (key:=key) ok hr htl
  refine zcf hO hv.app.app i2 hb (By.take hbb) (by omega) (by rw[List.length_take]; omega) ?_
  rw[hcut]
  clear hO
  intro H k1 hO r1
  refine zaa zwB ?_
  refine zaa zxB ?_
  refine zaa zyB ?_
  rw[zcM]
  refine zVa hO ?_
  clear hO
  intro p10 H hO
  refine zsa hO (_+0) (zxa rfl) (by rfl) (by rfl) (zqb r1.one) ?_
  clear hO
  intro H hO
  replace hO:=hO.set_r
  replace hO:St H ((((G++[(p4,(⟨mfC m cv,true⟩:Blk))])++zMa v1 c1)++zMa k1 (hsC m0.cks))++[(p10,⟨mfC m0 k1,true⟩)]):=hO
  have hr2:RdB ((((G++[(p4,(⟨mfC m cv,true⟩:Blk))])++zMa v1 c1)++zMa k1 (hsC m0.cks))++[(p10,(⟨mfC m0 k1,true⟩:Blk))]) v1 (zZa key m):=hr1.app.app
  have i10:((((G++[(p4,(⟨mfC m cv,true⟩:Blk))])++zMa v1 c1)++zMa k1 (hsC m0.cks))++[(p10,(⟨mfC m0 k1,true⟩:Blk))])[(((G++[(p4,(⟨mfC m cv,true⟩:Blk))])++zMa v1 c1)++zMa k1 (hsC m0.cks)).length+0]?=some (p10,⟨mfC m0 k1,true⟩):=zxa rfl
  have i4:((((G++[(p4,(⟨mfC m cv,true⟩:Blk))])++zMa v1 c1)++zMa k1 (hsC m0.cks))++[(p10,(⟨mfC m0 k1,true⟩:Blk))])[G.length+0]?=some (p4,⟨mfC m cv,true⟩):=zHa (zHa (zHa (zxa rfl)))
  have q1:RdH ((((G++[(p4,(⟨mfC m cv,true⟩:Blk))])++zMa v1 c1)++zMa k1 (hsC m0.cks))++[(p10,(⟨mfC m0 k1,true⟩:Blk))]) k1 m0.cks:=r1.app'.app
  have q4:RdH ((((G++[(p4,(⟨mfC m cv,true⟩:Blk))])++zMa v1 c1)++zMa k1 (hsC m0.cks))++[(p10,(⟨mfC m0 k1,true⟩:Blk))]) cv m.cks:=hc.app.app.app.app
  have qk:RdB ((((G++[(p4,(⟨mfC m cv,true⟩:Blk))])++zMa v1 c1)++zMa k1 (hsC m0.cks))++[(p10,(⟨mfC m0 k1,true⟩:Blk))]) v key:=hv.app.app.app.app
  generalize ((((G++[(p4,(⟨mfC m cv,true⟩:Blk))])++zMa v1 c1)++zMa k1 (hsC m0.cks))++[(p10,(⟨mfC m0 k1,true⟩:Blk))])=G2 at *
  generalize (((G++[(p4,(⟨mfC m cv,true⟩:Blk))])++zMa v1 c1)++zMa k1 (hsC m0.cks)).length=n10 at *
  refine zya hO (zNi _) ?_
  clear hO
  intro q5 H hO
  refine zAb (v:=sl q5 0 0 3) (cs:=[]) (xs:=[]) hO zds hr2 (by simp; omega) ?_
  clear hO
  intro H v5 c5 hO o5
  rw[List.nil_append] at o5
  refine zya hO (zJD _) ?_
  clear hO
  intro q6 H hO
  refine zEb (ys:=[1,2,3]) hO o5 (by simp; omega) rfl (.inr rfl) ?_
  clear hO
  intro H v6 c6 hO o6
  refine zcf (b:=zZa key m++[1,2,3]) hO qk.app o6.rd.app' hb (zRb hbb (by intro x hx; simp at hx; omega)) (by omega) (by simp; omega) ?_
  rw[zhl ok hr]
  clear hO
  intro H k2 hO r2
  refine zaa zwB ?_
  refine zaa zxB ?_
  refine zaa zyB ?_
  refine zVa hO ?_
  clear hO
  intro p13 H hO
  refine zsa hO (_+0) (zxa rfl) (by rfl) (zwa ok.dl) (zqb r2.one) ?_
  clear hO
  intro H hO
  replace hO:=hO.set_r
  replace hO:St H ((((G2++zMa v6 c6))++zMa k2 (hsC m.cks))++[(p13,⟨mfC m k2,true⟩)]):=hO
  refine zya hO (zNi _) ?_
  clear hO
  intro q7 H hO
  refine zAb (v:=sl q7 0 0 3) (cs:=[]) (xs:=[]) hO zds hr2.app.app.app (by simp; omega) ?_
  clear hO
  intro H v8 c8 hO o8
  rw[List.nil_append] at o8
  obtain⟨rr,hrr⟩:=zCv (key:=key) (m:=m)
  rw[hrr] at o8
  obtain⟨p8,d8,rfl,hb8,h80,h8l,hset⟩:=zVx o8
  rw[hb8] at hO
  obtain⟨ho9,o9⟩:=hset 67
  refine zaa (zUb (by omega) (by omega)) ?_
  refine zla hO (_+0) (zxa rfl) (v:=.int .u8 66) h80 ?_
  refine zaa (show _=some (.int .u8 67) from by rw[show (Value.int .u8 66)=zsb .u8 66 from rfl,show (Value.int .u8 1)=zsb .u8 1 from rfl,ztb (k:=.u8) rfl (by decide) (by decide)]; rfl) ?_
  refine zaa (zUb (by omega) (by omega)) ?_
  refine zKa hO (_+0) (zxa rfl) rfl h8l rfl ?_
  clear hO
  intro H hO
  replace hO:=hO.set_r
  replace hO:St H (((((G2++zMa v6 c6))++zMa k2 (hsC m.cks))++[(p13,⟨mfC m k2,true⟩)])++zMa (sl p8 0 (rr.length+1) d8) (c8.set 0 (.int .u8 67))):=by
   rw[ho9]; exact hO
  have hrb:By (67::rr):=by
   intro x hx
   rcases List.mem_cons.1 hx with rfl|hx
   ·omega
   ·exact hbb x (by rw[hrr]; exact List.mem_cons_of_mem _ hx)
  have hrl:rr.length+1=(zZa key m).length:=by rw[hrr]; rfl
  refine zcf (b:=67::rr) hO (qk.app.app.app.app) o9.rd.app' hb hrb (by omega) (by show rr.length+1≤_; omega) ?_
  rw[zBv (by decide)]
  clear hO
  intro H k3 hO r3
  refine zaa zwB ?_
  refine zaa zxB ?_
  refine zaa zyB ?_
  refine zVa hO ?_
  clear hO
  intro p17 H hO
  refine zsa hO (_+0) (zxa rfl) (by rfl) (by rfl) (zqb r3.one) ?_
  clear hO
  intro H hO
  replace hO:=hO.set_r.left.left.left
  refine zaa zRa ?_
  refine zhb rfl ?_
  refine zaa zRa ?_
  refine zaa (zIa rfl) ?_
  refine zhb rfl ?_
  refine zAa hO (n10+0) (zHa (zHa (zHa i10))) (by rfl) (by omega) ?_
  refine zaa bM0 ?_
  refine zhg zMx zMx (q1.app.app.app) RdH.nil hO ?_
  clear hO
  intro H hO
  rw[decide_eq_true (zgg.2 rfl)]
  refine zaa (zIa rfl) ?_
  refine zlh rfl ?_
  refine zaa zRa ?_
  refine zaa ztd ?_
  refine zhb rfl ?_
  refine zra o1.lenSl ?_
  refine zaa zRa ?_
  refine zaa (zIa rfl) ?_
  refine zhb rfl ?_
  refine zAa hO (_+0) (zxa rfl) (zwa ok.dl) (by omega) ?_
  refine zAa hO (G.length+0) (zHa (zHa (zHa i4))) (zwa ok.dl) (by omega) ?_
  refine zhg ok ok (r2.app'.app) (q4.app.app.app) hO ?_
  clear hO
  intro H hO
  rw[decide_eq_true (zgg.2 rfl)]
  refine zaa (zIa rfl) ?_
  refine zlh rfl ?_
  refine zaa zRa ?_
  refine zaa ztd ?_
  refine zhb rfl ?_
  refine zra o1.lenSl ?_
  refine zaa zen ?_
  refine zaa (zIa rfl) ?_
  rw[decide_eq_true (by omega)]
theorem zzB(t:TypeId)(c:Bool)(l m:List UInt8)(h:l.length+m.length≤1000000000):(zma P .add t c).f (str l) (str m)=some (str (l++m)):=by
 show zLB .add l m=_
 unfold zLB
 simp only[zQa,zBa]
 rw[if_pos (Nat.ble_eq_true_of_le (by omega))]
theorem zTC(a b:List Int):ob (a++b)=ob a++ob b:=by simp[ob]
set_option maxHeartbeats 8000000 in
theorem heads_main(wf:m.Wf)(hO:St H G)(hv:RdB G v key)(hb:By key)(hc:RdH G cv m.cks)(hi:RdB G iv image)(hib:By image):wCall P zRf [v,agg (mfC m cv),iv] H fun v _=>v=.bool true:=by
 apply zGj; unfold zth
 rw[zdd]
 refine nw hO.z ?_
 clear hO
 intro p4 H hO
 replace hO:St H (G++[(p4,⟨mfC m cv,true⟩)]):=hO
 refine zii hO ?_
 clear hO
 intro H hO
 refine zaa zLg ?_
 refine zOf rfl ?_
 refine zva (fun l' H'=>l'=[v,iv,ptr p4 0]∧St H' (G++[(p4,⟨mfC m cv,true⟩)])∧(m.pr.length≤300∧m.cks.length≤100)∧key.length≤200∧image.length≤500) ?_ ?_
 ·refine lw hO 0 rfl (zwa wf.dl) (by omega) ?_
  refine zvp wf.dl hc.app hO ?_
  clear hO
  intro H hO
  refine zia (fun h=>?_) (fun h=>?_)
  ·repeat (first|refine oi ?_|refine ow ?_|refine wy ?_|refine wn ?_|refine wt ?_|refine wf' ?_|refine cy ?_|refine cn ?_)
   rfl
  ·refine zra hv.lenSl ?_
   refine zaa zHb ?_
   refine zaa (zab h) ?_
   refine zia (fun h2=>?_) (fun h2=>?_)
   ·repeat (first|refine oi ?_|refine ow ?_|refine wy ?_|refine wn ?_|refine wt ?_|refine wf' ?_|refine cy ?_|refine cn ?_)
    rfl
   ·refine zra hi.lenSl ?_
    refine zaa zHb ?_
    refine zaa (zab h2) ?_
    refine zia (fun h3=>?_) (fun h3=>?_)
    ·rfl
    ·exact⟨rfl,hO,by omega,by omega,by omega⟩
 clear hO
 rintro l' H ⟨rfl,hO,⟨g1,g2⟩,g3,g4⟩
 try simp only[zea,zfa]
 have ok:=wf.ok g1 g2
 refine lw hO 0 rfl (zwa wf.dl) (by omega) ?_
 by_cases hr:zlb m
 ·obtain⟨b1,b2,b3,b4⟩:=zQh (key:=key) ok hr
  have hbb:By (zZa key m):=zRb (zok ok) zYn
  refine zPh ok hO hv.app hc.app hb (by omega) (fun h=>absurd hr h) ?_
  clear hO
  intro _ H v1 c1 hO o1
  refine zaa zrq ?_
  refine zaa zsq ?_
  refine zAa hO (G.length+0) (zHa (zxa rfl)) (zwa ok.dl) (by omega) ?_
  refine zbf ok hO hv.app.app hc.app.app hb (by omega) (fun h=>absurd hr h) ?_
  clear hO
  intro _ H v2 c2 hO o2
  refine zaa zrq ?_
  refine zaa zsq ?_
  refine zAa hO (G.length+0) (zHa (zHa (zxa rfl))) (zwa ok.dl) (by omega) ?_
  refine zao ok hO hv.app.app.app hc.app.app.app hi.app.app.app (by omega) hb (by omega) (fun h=>absurd hr h) ?_
  clear hO
  intro _ H v3 c3 hO o3
  refine zaa zrq ?_
  refine zaa zsq ?_
  have s1':zFa v1 H=some (str (ob (zZa key m)),H):=RdB.str hO (o1.rd.app'.app.app)
  have s2':zFa v2 H=some (str (ob (zZa key m)),H):=RdB.str hO (o2.rd.app'.app)
  refine zva (fun l' H'=>l'=[v,iv,ptr p4 0,v1,int 0,v2,v3]∧H=H') ?_ ?_
  ·refine zra s1' ?_
   refine zra s2' ?_
   refine zaa (zrp _ _) ?_
   refine zVc (fun h=>h rfl) ?_
   refine zaa zYa ?_
   refine zaa (zab (fun h=>h rfl)) ?_
   refine zVc (fun h=>h rfl) ?_
   refine zaa zYa ?_
   refine zaa (zab (fun h=>h rfl)) ?_
   refine zVc (fun h=>h rfl) ?_
   exact⟨rfl,rfl⟩
  rintro l' H' ⟨rfl,rfl⟩
  try simp only[zea,zfa]
  refine zaa zYa ?_
  refine zVc (fun h=>h rfl) ?_
  have r3:RdB ((((G++[(p4,(⟨mfC m cv,true⟩:Blk))])++zMa v1 c1)++zMa v2 c2)++zMa v3 c3) v3 (zZa key m++image):=o3.rd.app'
  refine zcf hO (hv.app.app.app.app) r3 hb (zRb hbb hib) (by omega) (by simp; omega) ?_
  rw[zhl ok hr]
  clear hO s1' s2'
  intro H k1 hO q1
  refine zaa zwB ?_
  refine zaa zxB ?_
  refine zaa zyB ?_
  rw[zcM]
  refine zVa hO ?_
  clear hO
  intro p13 H hO
  refine zsa hO (_+0) (zxa rfl) (by rfl) (zwa ok.dl) (zqb q1.one) ?_
  clear hO
  intro H hO
  replace hO:=hO.set_r
  have hlen:zSe (zZa key m++image)=(((zZa key m).length:Int),0):=by
   rw[show zZa key m++image=headA m++(zNl key (headA m)++image) by simp[zZa]]
   exact zfo ok hr _
  refine zhj hO r3.app.app (zRb hbb hib) (by simp; omega) ?_
  rw[hlen]
  clear hO
  intro H hO
  refine zaa zrq ?_
  refine zaa zsq ?_
  refine zra (RdB.str hO r3.app.app) ?_
  refine zra (RdB.str hO (o2.rd.app'.app.app.app)) ?_
  refine zra (RdB.str hO (hi.app.app.app.app.app.app)) ?_
  refine zaa (zzB _ _ (ob (zZa key m)) (ob image) (by simp[ob]; omega)) ?_
  refine zaa (show _=some (.bool true) from by
   show (zma P .eql 9 false).f (str (ob (zZa key m++image))) (str (ob (zZa key m)++ob image))=_
   rw[zTC,zCx]; simp) ?_
  refine zlh rfl ?_
  refine zaa zRa ?_
  refine zaa ztd ?_
  refine zhb rfl ?_
  refine zra o1.lenSl ?_
  refine zaa zRa ?_
  refine zaa (zIa rfl) ?_
  refine zhb rfl ?_
  refine zAa hO (_+0) (zxa rfl) (zwa ok.dl) (by omega) ?_
  refine zAa hO (G.length+0) (zHa (zHa (zHa (zHa (zHa (zxa rfl)))))) (zwa ok.dl) (by omega) ?_
  refine zhg ok ok (q1.app'.app) (hc.app.app.app.app.app.app) hO ?_
  clear hO
  intro H hO
  rw[decide_eq_true (zgg.2 rfl)]
  refine zaa (zIa rfl) ?_
  refine zlh rfl ?_
  refine zaa zRa ?_
  refine zaa ztd ?_
  refine zhb rfl ?_
  refine zaa zRa ?_
  refine zaa (zIa rfl) ?_
  rfl
 ·refine zPh ok hO hv.app hc.app hb (by omega) ?_ (fun h=>absurd h hr)
  clear hO
  intro _ H hO
  refine zaa zrq ?_
  refine zaa zsq ?_
  refine lw hO 0 rfl (zwa ok.dl) (by omega) ?_
  refine zbf ok hO hv.app hc.app hb (by omega) ?_ (fun h=>absurd h hr)
  clear hO
  intro _ H hO
  refine zaa zrq ?_
  refine zaa zsq ?_
  refine lw hO 0 rfl (zwa ok.dl) (by omega) ?_
  refine zao ok hO hv.app hc.app hi.app (by omega) hb (by omega) ?_ (fun h=>absurd h hr)
  clear hO
  intro _ H hO
  refine zaa zrq ?_
  refine zaa zsq ?_
  refine zva (fun l' H'=>l'=[v,iv,ptr p4 0,zua,int 131,zua,zua]∧H=H') ?_ ?_
  ·refine zra (RdB.str hO RdB.nil) ?_
   refine zra (RdB.str hO RdB.nil) ?_
   refine zaa (zrp (l:=ob []) (m:=ob []) _ _) ?_
   refine zVc (fun h=>h rfl) ?_
   refine zaa zYa ?_
   refine zaa (zab (fun h=>h rfl)) ?_
   refine zVc (fun h=>h rfl) ?_
   refine zaa zYa ?_
   refine zaa (zab (fun h=>h rfl)) ?_
   refine zVc (fun h=>h rfl) ?_
   exact⟨rfl,rfl⟩
  rintro l' H' ⟨rfl,rfl⟩
  try simp only[zea,zfa]
  refine zaa zYa ?_
  refine zhb (by decide) ?_
  refine zra (show lenSl zua H=some (int 0,H) from rfl) ?_
  refine zaa zRa ?_
  rfl
end J
set_option maxRecDepth 100000
namespace J
open Go Go.Ab
variable{H:Heap}{Γ Γ0 Γ2 Δ G L:List (Nat × Blk)}{K:VH}{v w x cv dv iv:Value}{xs ys zs:List Int}{m a:Mf}{cks:List (List Int)}
theorem zqt{P:Program}{t:TypeId}{fs:Array Field}(ht:P.underlying t=some (.struct fs)){ts:List TypeId}{N:Nat}{c:List Value}{b:List (List Value)}(h:ShpL P (t::ts) N c b):ShpL P (fs.toList.map (·.type)++ts) N c b:=by
 cases h with
 | struct hu h=>rw[ht] at hu; cases hu; exact h
 | array hu _=>rw[ht] at hu; cases hu
 | int v hu _ _=>rw[ht] at hu; cases hu
 | bool v hu _=>rw[ht] at hu; cases hu
 | str v hu _ _=>rw[ht] at hu; cases hu
 | slNil hu _=>rw[ht] at hu; cases hu
 | sl len hu _ _ _ _=>rw[ht] at hu; cases hu
theorem zwp{P:Program}{t e:TypeId}{n:Nat}(ht:P.underlying t=some (.array n e)){ts:List TypeId}{N:Nat}{c:List Value}{b:List (List Value)}(h:ShpL P (t::ts) N c b):ShpL P (List.replicate n e++ts) N c b:=by
 cases h with
 | array hu h=>rw[ht] at hu; cases hu; exact h
 | struct hu _=>rw[ht] at hu; cases hu
 | int v hu _ _=>rw[ht] at hu; cases hu
 | bool v hu _=>rw[ht] at hu; cases hu
 | str v hu _ _=>rw[ht] at hu; cases hu
 | slNil hu _=>rw[ht] at hu; cases hu
 | sl len hu _ _ _ _=>rw[ht] at hu; cases hu
theorem zAz{P:Program}{t:TypeId}(ht:P.underlying t=some .string){ts:List TypeId}{N:Nat}{c:List Value}{b:List (List Value)}(h:ShpL P (t::ts) N c b):∃ (l:List UInt8) (c':List Value),c=str l::c'∧ShpL P ts N c' b:=by
 cases h with
 | str v hu _ h=>exact⟨v.data.toList,_,rfl,h⟩
 | array hu h=>rw[ht] at hu; cases hu
 | struct hu _=>rw[ht] at hu; cases hu
 | int v hu _ _=>rw[ht] at hu; cases hu
 | bool v hu _=>rw[ht] at hu; cases hu
 | slNil hu _=>rw[ht] at hu; cases hu
 | sl len hu _ _ _ _=>rw[ht] at hu; cases hu
theorem zho{P:Program}{e:TypeId}{k:IntKind}(he:P.underlying e=some (.int k)){ts:List TypeId}:∀ (n N:Nat) (c:List Value) (b:List (List Value)),ShpL P (List.replicate n e++ts) N c b→∃ (xs:List Int) (c':List Value),xs.length=n∧c=xs.map (Value.int k)++c'∧(∀ x ∈ xs,(Lit.int k x).wf=true)∧ShpL P ts N c' b
 | 0,N,c,b,h=>⟨[],c,rfl,rfl,by simp,h⟩
 | n+1,N,c,b,h=>by
  obtain⟨x,c',rfl,hw,h1⟩:=zCj he (show ShpL P (e::(List.replicate n e++ts)) N c b from h)
  obtain⟨xs,c'',hl,rfl,hws,h2⟩:=zho he n N _ _ h1
  exact⟨x::xs,c'',by simp[hl],rfl,fun y hy=>by rcases List.mem_cons.1 hy with rfl|hy; exact hw; exact hws y hy,h2⟩
theorem zKD:P.underlying 22=some (.slice 5):=by kernel_rfl
theorem arg_bytes'{ts:List TypeId}{N:Nat}{av:List Value}{b:List (List Value)}(h:ArgS P (22::ts) N av b) :
  ∃ v vs b1 b2 xs,av=v::vs∧b=b1++b2∧RdB (zUu N b1) v xs∧(xs≠[]→Stay (zUu N b1) v)∧By xs∧ArgS P ts (N+b1.length) vs b2:=by
 obtain⟨v,vs,b1,b2,e,eb,h1,h2⟩:=zRw h (by rw[zKD]; simp) (by rw[zKD]; simp)
 rcases zLz zKD h1 with⟨c',e1,h3⟩|⟨len,cells,c',bs,b',e1,eb1,hm,hl,h3,h4⟩
 ·cases e1
  exact⟨_,vs,b1,b2,[],e,eb,.inl ⟨rfl,rfl⟩,fun _=>.inl rfl,fun x hx=>(by cases hx),h2⟩
 ·cases e1
  obtain⟨hb,xs,rfl,rfl,hw⟩:=zqr (k:=.u8) Go.Proofs.Tryd.underlying5 _ _ _ _ h3
  subst hb
  subst eb1
  refine⟨_,vs,_,b2,xs,e,eb,.inr ⟨N,0,_,rfl,.inl rfl,.inr ⟨0,_,rfl,by rw[List.drop_zero]; exact List.take_of_length_le (by simp)⟩⟩,fun hne=>?_,fun x hx=>wf_u8 (hw x hx),h2⟩
  exact .inr ⟨N,0,_,_,0,_,rfl,rfl,zRe xs,.inr (by simpa [by8] using hne)⟩
theorem zxp:∀ (n N:Nat) (c:List Value) (b:List (List Value)),ShpL P (List.replicate n 26) N c b→b=[]∧∃ cks:List (List Int),c=hsC cks∧cks.length=n∧(∀ x ∈ cks,x.length=32)∧(∀ x ∈ cks,By x)
 | 0,N,c,b,h=>by cases h; exact⟨rfl,[],rfl,rfl,by simp,by simp⟩
 | n+1,N,c,b,h=>by
  have h1:=zwp Go.Proofs.Tryd.underlying26 (show ShpL P (26::List.replicate n 26) N c b from h)
  obtain⟨xs,c',hl,rfl,hw,h2⟩:=zho (k:=.u8) Go.Proofs.Tryd.underlying5 _ _ _ _ h1
  obtain⟨rfl,cks,rfl,hn,h3,h4⟩:=zxp n N _ _ h2
  refine⟨rfl,xs::cks,rfl,by simp[hn],fun x hx=>?_,fun x hx=>?_⟩
  ·rcases List.mem_cons.1 hx with rfl|hx
   ·exact hl
   ·exact h3 x hx
  ·rcases List.mem_cons.1 hx with rfl|hx
   ·exact fun y hy=>wf_u8 (hw y hy)
   ·exact h4 x hx
theorem uHs:P.underlying 27=some (.slice 26):=by kernel_rfl
theorem zUC{ts:List TypeId}{N:Nat}{c:List Value}{b:List (List Value)}(h:ShpL P (29::ts) N c b) :
  ∃ (m:Mf) (cv:Value) (c':List Value) (b1 b2:List (List Value)),c=mfC m cv++c'∧b=b1++b2∧RdH (zUu N b1) cv m.cks∧m.Wf∧ShpL P ts (N+b1.length) c' b2:=by
 have h0:=zqt Go.Proofs.Tryd.underlying29 h
 have h0:ShpL P (9::24::3::3::26::27::ts) N c b:=h0
 obtain⟨pr,c1,rfl,h1⟩:=zAz Go.Proofs.Tryd.underlying9 h0
 obtain⟨ver,c2,rfl,w2,h2⟩:=zCj (k:=.u64) Go.Proofs.Tryd.underlying24 h1
 obtain⟨sz,c3,rfl,w3,h3⟩:=zCj (k:=.i64) Go.Proofs.Tryd.underlying3 h2
 obtain⟨ck,c4,rfl,w4,h4⟩:=zCj (k:=.i64) Go.Proofs.Tryd.underlying3 h3
 have h5:=zwp Go.Proofs.Tryd.underlying26 h4
 obtain⟨dg,c5,hl,rfl,hw,h6⟩:=zho (k:=.u8) Go.Proofs.Tryd.underlying5 _ _ _ _ h5
 have v2:=wf_u64 w2
 have wf:∀ cks:List (List Int),(∀ x ∈ cks,x.length=32)→(∀ x ∈ cks,By x)→(Mf.mk pr ver.toNat sz ck dg cks).Wf:=fun cks q1 q2=>⟨hl,fun x hx=>wf_u8 (hw x hx),q1,q2,by show ver.toNat < _; omega,wf_i64 w3,wf_i64 w4⟩
 have ev:Value.int .u64 ver=zsb .u64 ver.toNat:=zbj v2.1
 rcases zLz uHs h6 with⟨c',rfl,h7⟩|⟨len,cells,c',bs,b',rfl,rfl,hm,hln,h7,h8⟩
 ·refine⟨⟨pr,ver.toNat,sz,ck,dg,[]⟩,zua,c',[],b,?_,rfl,RdH.nil,wf [] (by simp) (by simp),h7⟩
  unfold mfC
  rw[← ev]; simp[by8]
 ·obtain⟨rfl,cks,rfl,rfl,q1,q2⟩:=zxp _ _ _ _ h7
  refine⟨⟨pr,ver.toNat,sz,ck,dg,cks⟩,sl N 0 cks.length (2 * P.cellsOf 26),c',[hsC cks],b',?_,rfl,.inr ⟨N,_,0,false,rfl,rfl⟩,wf cks q1 q2,h8⟩
  unfold mfC
  rw[← ev]; simp[by8]
theorem arg_mf{ts:List TypeId}{N:Nat}{av:List Value}{b:List (List Value)}(h:ArgS P (29::ts) N av b) :
  ∃ m cv vs b1 b2,av=agg (mfC m cv)::vs∧b=b1++b2∧RdH (zUu N b1) cv m.cks∧m.Wf∧ArgS P ts (N+b1.length) vs b2:=by
 obtain⟨cs,vs,b1,b2,rfl,rfl,h1,h2⟩:=zDA h (.inl ⟨_,Go.Proofs.Tryd.underlying29⟩)
 obtain⟨m,cv,c',b3,b4,rfl,rfl,hr,hw,h3⟩:=zUC h1
 obtain⟨rfl,rfl⟩:=zQw h3
 rw[List.append_nil,List.append_nil] at *
 exact⟨m,cv,vs,b3,b2,rfl,rfl,hr,hw,h2⟩
end J
