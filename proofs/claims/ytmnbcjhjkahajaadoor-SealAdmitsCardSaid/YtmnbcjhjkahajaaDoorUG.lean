/- texts of the proof, one behind the other -/
import Derived.Test.YtmnbcjhjkahajaaDoorUF
set_option linter.unusedVariables false
set_option linter.unusedSimpArgs false
set_option linter.unusedSectionVars false
set_option maxRecDepth 100000
namespace J
open Go Go.Ab
variable{H:Heap}{Γ Γ0 Γ2 Δ G L:List (Nat × Blk)}{K:VH}{v w x cv dv:Value}{xs ys zs bs b key ms r:List Int}{j p q o n k mx:Nat}{e:Int}{cs cs':List Value}{l:List UInt8}{m a:Mf}{cks:List (List Int)}
theorem zPl(ok:m.Ok)(h:zUa m):(zfe key m).length=(headA m).length+32∧(zfe key m).length≤2228∧84≤(zfe key m).length∧(headA m).length=(zdd m).length+4:=by
 have h1:=zNl ok h
 obtain⟨h2,h3,h4⟩:=zIr ok h
 have h5:(zfe key m).length=(headA m).length+32:=by simp only[zfe,List.length_append,zdh]
 omega
theorem znv:(headA m++r).take 2=[66,85]∧((headA m++r).take 4).drop 2=leN 2 (zdd m).length∧4≤(headA m++r).length∧(headA m).drop 4=zdd m:=by
 have h:headA m=[66,85]++[(((zdd m).length % 256:Nat):Int),(((zdd m).length / 256 % 256:Nat):Int)]++zdd m:=by unfold headA; rw[zqz]
 rw[h,zqz]
 refine⟨rfl,rfl,by simp,rfl⟩
theorem zov(ok:m.Ok)(h:zUa m)(r:List Int):zkh (headA m++r)=(((zfe key m).length:Int),0):=by
 obtain⟨h1,h2,h3,h4⟩:=znv (m:=m) (r:=r)
 obtain⟨b1,b2,b3,b4⟩:=zPl (key:=key) ok h
 obtain⟨m1,m2,m3⟩:=zIr ok h
 unfold zkh
 rw[h1,h2,zch 2 _ (by omega),if_neg (by simp; simpa using h3),if_neg (by omega)]
 congr 1
 omega
theorem zRs(ok:m.Ok)(h:zUa m)(r:List Int):zOl key (zfe key m++r)=(m,((zfe key m).length:Int),0):=by
 obtain⟨h1,h2,h3,h4⟩:=znv (m:=m) (r:=zNu key (headA m)++r)
 obtain⟨b1,b2,b3,b4⟩:=zPl (key:=key) ok h
 have e:zfe key m++r=headA m++(zNu key (headA m)++r):=by simp[zfe]
 have hl:zkh (zfe key m++r)=(((zfe key m).length:Int),0):=by rw[e]; exact zov ok h _
 rw[zkv hl (by simp)]
 have t1:(zfe key m++r).take ((zfe key m).length - 32)=headA m:=by
  rw[e,List.take_append_of_le_length (by omega),show (zfe key m).length - 32=(headA m).length by omega,List.take_length]
 have t2:((zfe key m++r).take (zfe key m).length).drop ((zfe key m).length - 32)=zNu key (headA m):=by
  rw[List.take_append_of_le_length (by omega),List.take_length,show (zfe key m).length - 32=(headA m).length by omega]
  unfold zfe
  rw[List.drop_left]
 rw[t1,t2,h4,zIq ok h]
 rw[if_neg (fun h=>h rfl),if_neg (by simp)]
def mPl:Mf:=⟨[98,111,111,116,49],7,65,64,z32,[z32,z32]⟩
theorem zfx:zAj [98,111,111,116,49]=0:=by kernel_rfl
theorem zJg:mPl.Ok:=⟨rfl,zNm,(by intro x h; simp[mPl] at h; rw[h]; rfl),(by intro x h; simp[mPl] at h; rw[h]; exact zNm),by decide,by decide,by decide,by decide,by decide⟩
theorem zHd:zUa mPl:=⟨zfx,by decide,by decide,by decide,by decide,by decide,by decide,by decide,by decide,by decide⟩
theorem zMB(H:Heap):(zGc P 27).f (int 2) (int 2) H=some (sl H.next 0 2 65,H.push (hsC [z32,z32])):=by kernel_rfl
theorem zNB(a:Option Addr)(n c:Nat):(zWa P 29).f [(0,.string ⟨#[98,111,111,116,49]⟩),(1,.int .u64 7),(2,int 65),(3,int 64),(5,.slice a n c)]=some (agg (mfC mPl (.slice a n c))):=by kernel_rfl
theorem zDj(hO:St H Γ)(hk:∀ H' cv,St H' (Γ++zGb cv (hsC mPl.cks))→RdH (zGb cv (hsC mPl.cks)) cv mPl.cks→K (agg (mfC mPl cv)) H'):wCall P zTc [] H K:=by
 apply zYl; unfold znl
 rw[zcM]
 refine nw hO.z ?_
 clear hO
 intro p0 H hO
 refine zxa hO (zMB _) ?_
 clear hO
 intro q H hO
 refine zaa (zNB _ _ _) ?_
 refine zLa hO (Γ.length+0) (zZa (zEa rfl)) (by rfl) (by rfl) (zqd rfl) ?_
 clear hO
 intro H hO
 rw[List.set_append_left _ _ (by simp),Go.Ab.set_r] at hO
 refine zlb hO (Γ.length+0) (zZa (zEa rfl)) (by rfl) (by omega) ?_
 exact hk H (sl q 0 2 65) (St.mid hO) (.inr ⟨q,65,0,true,rfl,rfl⟩)
theorem zEA(H:Heap):(zea P 22 3).f [(0,.int .u8 107),(1,.int .u8 101),(2,.int .u8 121)] H=some (sl H.next 0 3 3,H.push (by8 [107,101,121])):=by kernel_rfl
set_option maxHeartbeats 4000000 in
theorem zEj(hO:St H Γ)(hk:∀ H',St H' Γ→K (.bool true) H'):wCall P ztb [] H K:=by
 apply zti; unfold zCg
 have hkey:By [107,101,121]:=by intro x hx; simp at hx; omega
 refine zxa hO (zEA _) ?_
 clear hO
 intro q1 H hO
 refine kp hO 0 rfl (by omega) ?_
 refine zDj hO ?_
 clear hO
 intro H c1 hO h1
 refine zjv (key:=[107,101,121]) zJg hO (zVs (k:=0) (Γ:=Γ) (L:=[(q1,⟨by8 [107,101,121],true⟩)]) rfl (.inr rfl) rfl).app h1.app' hkey (by simp) (fun h=>absurd zHd h) ?_
 clear hO
 intro _ H v2 c2 hO o2
 have hlen:(zfe [107,101,121] mPl).length=153:=by
  have:=(zPl (key:=[107,101,121]) zJg zHd)
  have h2:=zNl zJg zHd
  have h3:mPl.pr.length=5:=rfl
  have h4:mPl.cks.length=2:=rfl
  omega
 refine zaa zsx ?_
 refine zaa ztx ?_
 replace hO:St H (Γ++zGb v2 c2):=St.mid (St.mid hO)
 refine zxa hO (zEA _) ?_
 clear hO
 intro q3 H hO
 refine kp hO 0 rfl (by omega) ?_
 have hopen:zOl [107,101,121] (zfe [107,101,121] mPl)=(mPl,153,0):=by
  have:=zRs (key:=[107,101,121]) zJg zHd []
  rw[List.append_nil,hlen] at this
  exact this
 refine zmv (key:=[107,101,121]) (b:=zfe [107,101,121] mPl) hO (zVs (k:=0) (L:=[(q3,⟨by8 [107,101,121],true⟩)]) rfl (.inr rfl) rfl) (o2.rd.app'.app) hkey (zGd (zJr zJg) ziv) (by simp) (by rw[hlen]; omega) ?_
 rw[hopen]
 clear hO
 intro H c3 hO h3
 refine zaa (show zNj 0 _=some (agg (mfC mPl c3)) from rfl) ?_
 refine zaa (show zNj 1 _=some (int 153) from rfl) ?_
 refine zaa (show zNj 2 _=some (int 0) from rfl) ?_
 rw[zcM]
 refine zyb hO ?_
 clear hO
 intro p3 H hO
 refine zLa hO (_+0) (zEa rfl) (by rfl) (by rfl) (zqd h3.one) ?_
 clear hO
 intro H hO
 replace hO:=hO.set_r
 repeat (first|refine oi ?_|refine ow ?_|refine wy ?_|refine wn ?_|refine wt ?_|refine wf' ?_|refine cy ?_|refine cn ?_)
 refine zra (o2.lenSl) ?_
 rw[hlen]
 repeat (first|refine oi ?_|refine ow ?_|refine wy ?_|refine wn ?_|refine wt ?_|refine wf' ?_|refine cy ?_|refine cn ?_)
 refine zlb hO (_+0) (zEa rfl) (by rfl) (by omega) ?_
 refine zDj hO ?_
 intro H2 c4 hO2 h4
 refine⟨zWb hO (_+0) (zEa rfl) hO2 (_+0) (zZa (zEa rfl)) (zrd h3.simple),?_⟩
 refine zav zJg zJg (h3.app'.app.app) h4.app' hO2 ?_
 intro H3 hO3
 rw[decide_eq_true (zYu.2 rfl)]
 refine zaa (zSc (by decide)) ?_
 exact hk H3 hO3.left.left.left.left.left
end J
set_option maxRecDepth 100000
namespace J
open Go Go.Ab
variable{H:Heap}{Γ Γ0 Γ2 Δ G L:List (Nat × Blk)}{K:VH}{v w x cv dv iv:Value}{xs ys zs bs b key ms r image:List Int}{j p q o n k mx:Nat}{e cut:Int}{cs cs':List Value}{l:List UInt8}{m a:Mf}{cks:List (List Int)}
structure Mf.Wf (m:Mf):Prop where
 dl:m.dg.length=32
 db:By m.dg
 cl:∀ x ∈ m.cks,x.length=32
 cb:∀ x ∈ m.cks,By x
 ver:m.ver < 18446744073709551616
 sz:-9223372036854775808≤m.sz∧m.sz≤9223372036854775807
 ck:-9223372036854775808≤m.ck∧m.ck≤9223372036854775807
theorem Mf.Wf.ok(h:m.Wf)(h1:m.pr.length≤300)(h2:m.cks.length≤100):m.Ok:=⟨h.dl,h.db,h.cl,h.cb,h.ver,h.sz,h.ck,by omega,by omega⟩
theorem zQm(hd:m.dg.length=32)(hc:RdH Γ cv m.cks)(hO:St H Γ)(hk:∀ H',St H' Γ→K (.bool (decide (300 < m.pr.length∨100 < m.cks.length))) H'):wCall P zbe [agg (mfC m cv)] H K:=by
 apply zXl; unfold zml
 have h36:=zAh (m:=m) (cv:=cv) hd
 rw[zud]
 refine nw hO.z ?_
 clear hO
 intro p1 H hO
 refine zaa zba ?_
 refine ld hO 0 rfl (v:=str m.pr) rfl ?_
 refine zra zTh ?_
 refine zaa zPc ?_
 refine zja (fun h=>?_) (fun h=>?_)
 ·refine zaa (zSc h) ?_
  have:=hk H hO.left
  rw[decide_eq_true (show 300 < m.pr.length∨100 < m.cks.length by omega)] at this
  exact this
 ·refine zaa zba ?_
  refine ld hO 0 rfl h36 ?_
  refine zra hc.lenSl ?_
  refine zaa zPc ?_
  refine zaa (zsb h) ?_
  have:=hk H hO.left
  rw[decide_eq_decide.2 (show (300 < m.pr.length∨100 < m.cks.length)↔((100:Int) < (m.cks.length:Int)) by omega)] at this
  exact this
end J
set_option maxRecDepth 100000
namespace J
open Go Go.Ab
variable{H:Heap}{Γ Γ0 Γ2 Δ G L:List (Nat × Blk)}{K:VH}{v w x cv dv iv:Value}{xs ys zs bs b key ms r image:List Int}{j p q o n k mx:Nat}{e cut:Int}{cs cs':List Value}{l:List UInt8}{m a:Mf}{cks:List (List Int)}
theorem zpv(t:TypeId)(c:Bool)(l m:List UInt8)(h:l.length+m.length≤1000000000):(zla P .add t c).f (str l) (str m)=some (str (l++m)):=by
 show zuz .add l m=_
 unfold zuz
 simp only[zFa,zta]
 rw[if_pos (Nat.ble_eq_true_of_le (by omega))]
end J
set_option maxRecDepth 100000
namespace J
open Go Go.Ab
variable{H:Heap}{Γ Γ0 Γ2 Δ G L:List (Nat × Blk)}{K:VH}{v w x cv dv iv:Value}{xs ys zs:List Int}{m a:Mf}{cks:List (List Int)}
theorem zUh{P:Program}{t:TypeId}{fs:Array Field}(ht:P.underlying t=some (.struct fs)){ts:List TypeId}{N:Nat}{c:List Value}{b:List (List Value)}(h:ShpL P (t::ts) N c b):ShpL P (fs.toList.map (·.type)++ts) N c b:=by
 cases h with
 | struct hu h=>rw[ht] at hu; cases hu; exact h
 | array hu _=>rw[ht] at hu; cases hu
 | int v hu _ _=>rw[ht] at hu; cases hu
 | bool v hu _=>rw[ht] at hu; cases hu
 | str v hu _ _=>rw[ht] at hu; cases hu
 | slNil hu _=>rw[ht] at hu; cases hu
 | sl len hu _ _ _ _=>rw[ht] at hu; cases hu
theorem zRm{P:Program}{t e:TypeId}{n:Nat}(ht:P.underlying t=some (.array n e)){ts:List TypeId}{N:Nat}{c:List Value}{b:List (List Value)}(h:ShpL P (t::ts) N c b):ShpL P (List.replicate n e++ts) N c b:=by
 cases h with
 | array hu h=>rw[ht] at hu; cases hu; exact h
 | struct hu _=>rw[ht] at hu; cases hu
 | int v hu _ _=>rw[ht] at hu; cases hu
 | bool v hu _=>rw[ht] at hu; cases hu
 | str v hu _ _=>rw[ht] at hu; cases hu
 | slNil hu _=>rw[ht] at hu; cases hu
 | sl len hu _ _ _ _=>rw[ht] at hu; cases hu
theorem zKr{P:Program}{t:TypeId}(ht:P.underlying t=some .string){ts:List TypeId}{N:Nat}{c:List Value}{b:List (List Value)}(h:ShpL P (t::ts) N c b):∃ (l:List UInt8) (c':List Value),c=str l::c'∧ShpL P ts N c' b:=by
 cases h with
 | str v hu _ h=>exact⟨v.data.toList,_,rfl,h⟩
 | array hu h=>rw[ht] at hu; cases hu
 | struct hu _=>rw[ht] at hu; cases hu
 | int v hu _ _=>rw[ht] at hu; cases hu
 | bool v hu _=>rw[ht] at hu; cases hu
 | slNil hu _=>rw[ht] at hu; cases hu
 | sl len hu _ _ _ _=>rw[ht] at hu; cases hu
theorem zQl{P:Program}{e:TypeId}{k:IntKind}(he:P.underlying e=some (.int k)){ts:List TypeId}:∀ (n N:Nat) (c:List Value) (b:List (List Value)),ShpL P (List.replicate n e++ts) N c b→∃ (xs:List Int) (c':List Value),xs.length=n∧c=xs.map (Value.int k)++c'∧(∀ x ∈ xs,(Lit.int k x).wf=true)∧ShpL P ts N c' b
 | 0,N,c,b,h=>⟨[],c,rfl,rfl,by simp,h⟩
 | n+1,N,c,b,h=>by
  obtain⟨x,c',rfl,hw,h1⟩:=zwe he (show ShpL P (e::(List.replicate n e++ts)) N c b from h)
  obtain⟨xs,c'',hl,rfl,hws,h2⟩:=zQl he n N _ _ h1
  exact⟨x::xs,c'',by simp[hl],rfl,fun y hy=>by rcases List.mem_cons.1 hy with rfl|hy; exact hw; exact hws y hy,h2⟩
theorem zSm:∀ (n N:Nat) (c:List Value) (b:List (List Value)),ShpL P (List.replicate n 26) N c b→b=[]∧∃ cks:List (List Int),c=hsC cks∧cks.length=n∧(∀ x ∈ cks,x.length=32)∧(∀ x ∈ cks,By x)
 | 0,N,c,b,h=>by cases h; exact⟨rfl,[],rfl,rfl,by simp,by simp⟩
 | n+1,N,c,b,h=>by
  have h1:=zRm Go.Proofs.Tryd.underlying26 (show ShpL P (26::List.replicate n 26) N c b from h)
  obtain⟨xs,c',hl,rfl,hw,h2⟩:=zQl (k:=.u8) Go.Proofs.Tryd.underlying5 _ _ _ _ h1
  obtain⟨rfl,cks,rfl,hn,h3,h4⟩:=zSm n N _ _ h2
  refine⟨rfl,xs::cks,rfl,by simp[hn],fun x hx=>?_,fun x hx=>?_⟩
  ·rcases List.mem_cons.1 hx with rfl|hx
   ·exact hl
   ·exact h3 x hx
  ·rcases List.mem_cons.1 hx with rfl|hx
   ·exact fun y hy=>wf_u8 (hw y hy)
   ·exact h4 x hx
theorem uHs:P.underlying 27=some (.slice 26):=by kernel_rfl
theorem zIx{ts:List TypeId}{N:Nat}{c:List Value}{b:List (List Value)}(h:ShpL P (29::ts) N c b) :
  ∃ (m:Mf) (cv:Value) (c':List Value) (b1 b2:List (List Value)),c=mfC m cv++c'∧b=b1++b2∧RdH (zUs N b1) cv m.cks∧m.Wf∧ShpL P ts (N+b1.length) c' b2:=by
 have h0:=zUh Go.Proofs.Tryd.underlying29 h
 have h0:ShpL P (9::24::3::3::26::27::ts) N c b:=h0
 obtain⟨pr,c1,rfl,h1⟩:=zKr Go.Proofs.Tryd.underlying9 h0
 obtain⟨ver,c2,rfl,w2,h2⟩:=zwe (k:=.u64) Go.Proofs.Tryd.underlying24 h1
 obtain⟨sz,c3,rfl,w3,h3⟩:=zwe (k:=.i64) Go.Proofs.Tryd.underlying3 h2
 obtain⟨ck,c4,rfl,w4,h4⟩:=zwe (k:=.i64) Go.Proofs.Tryd.underlying3 h3
 have h5:=zRm Go.Proofs.Tryd.underlying26 h4
 obtain⟨dg,c5,hl,rfl,hw,h6⟩:=zQl (k:=.u8) Go.Proofs.Tryd.underlying5 _ _ _ _ h5
 have v2:=wf_u64 w2
 have wf:∀ cks:List (List Int),(∀ x ∈ cks,x.length=32)→(∀ x ∈ cks,By x)→(Mf.mk pr ver.toNat sz ck dg cks).Wf:=fun cks q1 q2=>⟨hl,fun x hx=>wf_u8 (hw x hx),q1,q2,by show ver.toNat < _; omega,wf_i64 w3,wf_i64 w4⟩
 have ev:Value.int .u64 ver=zbb .u64 ver.toNat:=zvg v2.1
 rcases zQz uHs h6 with⟨c',rfl,h7⟩|⟨len,cells,c',bs,b',rfl,rfl,hm,hln,h7,h8⟩
 ·refine⟨⟨pr,ver.toNat,sz,ck,dg,[]⟩,zva,c',[],b,?_,rfl,RdH.nil,wf [] (by simp) (by simp),h7⟩
  unfold mfC
  rw[← ev]; simp[by8]
 ·obtain⟨rfl,cks,rfl,rfl,q1,q2⟩:=zSm _ _ _ _ h7
  refine⟨⟨pr,ver.toNat,sz,ck,dg,cks⟩,sl N 0 cks.length (2 * P.cellsOf 26),c',[hsC cks],b',?_,rfl,.inr ⟨N,_,0,false,rfl,rfl⟩,wf cks q1 q2,h8⟩
  unfold mfC
  rw[← ev]; simp[by8]
theorem arg_mf{ts:List TypeId}{N:Nat}{av:List Value}{b:List (List Value)}(h:ArgS P (29::ts) N av b) :
  ∃ m cv vs b1 b2,av=agg (mfC m cv)::vs∧b=b1++b2∧RdH (zUs N b1) cv m.cks∧m.Wf∧ArgS P ts (N+b1.length) vs b2:=by
 obtain⟨cs,vs,b1,b2,rfl,rfl,h1,h2⟩:=zkq h (.inl ⟨_,Go.Proofs.Tryd.underlying29⟩)
 obtain⟨m,cv,c',b3,b4,rfl,rfl,hr,hw,h3⟩:=zIx h1
 obtain⟨rfl,rfl⟩:=zjq h3
 rw[List.append_nil,List.append_nil] at *
 exact⟨m,cv,vs,b3,b2,rfl,rfl,hr,hw,h2⟩
end J
