/- texts of the proof, one behind the other -/
import Derived.Test.YtlkkkfmjfpeooaaGreatDoorUH
set_option linter.unusedVariables false
set_option linter.unusedSimpArgs false
set_option linter.unusedSectionVars false
set_option maxRecDepth 100000
namespace J
open Go Go.Ab
variable{H:Heap}{Γ Λ Δ S F X N:List (Nat × Blk)}{K:VH}{v cv:Value}{cs cs':List Value}{p o k n:Nat}{e pos a:Int}{m:Mp}{L L':Mloc}{sd md:Mf}{w:Wr}{B B':Wl}{bs x:List Int}{xs:List (List Int)}
theorem zBy{l r nx token wr sg:Nat}{slot er:Int}{sv ssv:Value}(hv:zSa sv=true)(h2:zSa ssv=true):(wrC l token slot r sd sv nx ssv wr sg er).all zSa=true:=by
 show (true && (true && (true && (true && (mfC sd sv++[int nx,ssv,int wr,int sg,int er]).all zSa))))=true
 rw[List.all_append,zIh hv]
 show (true && (true && (zSa ssv && (true && (true && (true && true))))))=true
 rw[h2]; rfl
theorem RdSec.simple{ss:List (List Int)}(h:RdSec S v ss):zSa v=true:=by
 rcases h with⟨rfl,rfl⟩|⟨p,k,c,j,w,all,rfl,_⟩ <;> rfl
theorem WrR.simple(h:WrR S w B):(B.wc w).all zSa=true:=zBy h.sv.simple h.ss.simple
theorem Mp.all_len(ok:m.Ok){pt:Int}:(m.all pt).length=64 * m.size pt:=Mp.upto_len ok _
set_option maxHeartbeats 1000000 in
theorem zCy(hR:WrR S w B)(hsz:0≤w.sd.sz)(hm:w.m.Sm 1000000)(hO:WSt H S F w B)(hk:∀ H' B',B.Same B'→WrR S w.close B'→WSt H' S F w.close B'→K (.tuple [].toArray) H'):wCall P zmd [ptr B.c 0] H K:=by
 apply zwj; unfold zKg
 have hd:=hR.sd.dl
 refine zaa zda ?_
 refine zaa zca ?_
 refine wld hO 3 rfl (v:=ptr B.l 0) rfl ?_
 refine zaa zda ?_
 refine zaa zca ?_
 refine wld hO 3 rfl (v:=zsb .u64 w.token) rfl ?_
 refine zyy hR.s hR.m.ok hm hO hR.own (zZv B w) ?_
 clear hO
 intro H L' he hO hv
 refine zaa zda ?_
 refine zaa zca ?_
 refine zhB hd he hO ?_
 clear hO
 intro H hO
 replace hO:WSt H S F w.syncs (B.at L'):=hO
 have hR1:WrR S w.syncs (B.at L'):=hR.put (zgG hR.m znx) hv
 have hB1:B.Same (B.at L'):=Wl.same_at he
 have hsd:w.syncs.sd=w.sd:=rfl
 have hs1:w.syncs.s=w.s:=rfl
 have hsl:w.syncs.slot=w.slot:=rfl
 unfold Wr.close at hk
 generalize w.syncs=w1 at *
 rw[show B.c=(B.at L').c from rfl]
 generalize B.at L'=B1 at *
 have hd1:=hR1.sd.dl
 refine zaa zda ?_
 refine zaa zca ?_
 refine wld hO 3 rfl (zmx hd1) ?_
 refine zaa zGb ?_
 refine zna (fun h=>?_) (fun h=>?_)
 ·rw[if_pos h] at hk
  exact hk H B1 hB1 hR1 hO
 rw[if_neg h] at hk
 refine zaa zda ?_
 refine zaa zca ?_
 refine wld hO 3 rfl (v:=ptr B1.l 0) rfl ?_
 refine zaa zda ?_
 refine zaa zca ?_
 refine wld hO 3 rfl (v:=int w1.slot) rfl ?_
 refine zZA hR1.m.ok hO (zZv B1 w1) ?_
 clear hO
 intro H vb cb hO hvb
 rw[hs1,hsl] at hvb
 have hby:=Mp.all_byt (pt:=w.s.part w.slot) hR1.m.b
 have hal:=Mp.all_len (pt:=w.s.part w.slot) hR1.m.ok
 have hszz:=Mp.size_le (part:=w.s.part w.slot) hR1.m.ok
 generalize w1.m.all (w.s.part w.slot)=b at *
 refine zva (fun l' H'=>l'=[ptr B1.c 0,.bool (decide ((b.length:Int) < w.sd.sz∨sha (b.take w.sd.sz.toNat)≠w.sd.dg))]∧WSt H' S F w1 B1) ?_ ?_
 ·refine zCa hvb.lenSl ?_
  refine zaa zda ?_
  refine zaa zca ?_
  refine zaa zca ?_
  refine wld hO.left 3 rfl (show (B1.wc w1)[0+4+2]?=some (int w.sd.sz) by rw[← hsd]; rfl) ?_
  refine zaa zIa ?_
  refine zna (fun h1=>?_) (fun h1=>?_)
  ·refine zaa (zNb h1) ?_
   exact⟨by simp[h1],hO.left⟩
  ·refine zaa zda ?_
   refine zaa zca ?_
   refine zaa zca ?_
   refine wld hO.left 3 rfl (show (B1.wc w1)[0+4+2]?=some (int w.sd.sz) by rw[← hsd]; rfl) ?_
   obtain⟨v1,e1,i1⟩:=zzo hvb.rd (n:=w.sd.sz.toNat) (by omega)
   rw[Int.toNat_of_nonneg hsz] at e1
   refine zaa e1 ?_
   have hr1:=(i1 _ hvb.rd).app' (Γ:=(((S++F)++B1.blk w1)++MW B1.L w1.m))
   obtain⟨a,n',c',rfl⟩:=hr1.shape
   refine zbb hO (zVJ _ _ _ _) ?_
   have hO0:=hO
   clear hO
   intro q H1 hO
   have hO1:=hO
   refine zMA (j:=_+0) hO (zua rfl) hr1.app (fun x hx=>hby x (List.mem_of_mem_take hx)) (by rw[List.length_take]; omega) ?_
   clear hO
   intro H2 hO
   refine zaa zda ?_
   refine zaa zca ?_
   refine zaa zca ?_
   have hi:((((S++F)++B1.blk w1)++MW B1.L w1.m)++zhb vb cb)[(S++F).length+3]?=some (B1.c,⟨B1.wc w1,true⟩):=zwa (zwa (zua rfl))
   refine zMa hO _ (zwa hi) (show _=by8 w.sd.dg by rw[← hsd]; exact zYH hd1) (by rw[zsa,← hsd]; exact hd1) (by omega) ?_
   refine⟨same_at hO1 _ (zwa hi) hO _ (zwa hi) hR1.simple,zUH (H':=H) hO0 hi _,?_⟩
   refine zaa (neH _ zdn (by rw[← hsd]; exact hd1)) ?_
   refine zaa (zuc h1) ?_
   exact⟨by simp[h1],hO.left.left⟩
 clear hO
 rintro l' H ⟨rfl,hO⟩
 try simp only[zia,zja]
 refine zna (fun h1=>?_) (fun h1=>?_)
 ·rw[if_pos h1] at hk
  refine zaa zda ?_
  refine zaa zca ?_
  refine wst hO 3 (o:=0+45) rfl rfl (by rw[Wl.wc,zlf hd1]; omega) (zYv hd1 153) ?_
  clear hO
  intro H hO
  exact hk H B1 hB1 ⟨hR1.q,hR1.sd,hR1.sv,hR1.ss,hR1.sb,hR1.s,hR1.m,hR1.own,hR1.nx,hR1.wr⟩ hO
 ·rw[if_neg h1] at hk
  refine zaa zda ?_
  refine zaa zca ?_
  refine wst hO 3 (o:=0+44) rfl rfl (by rw[Wl.wc,zlf hd1]; omega) (zIs hd1 4) ?_
  clear hO
  intro H hO
  exact hk H B1 hB1 ⟨hR1.q,hR1.sd,hR1.sv,hR1.ss,hR1.sb,hR1.s,hR1.m,hR1.own,hR1.nx,hR1.wr⟩ hO
theorem RdSec.cons(h:RdSec S v (x::xs)):x.length=64∧∃ (p k c j:Nat) (w:Bool) (all:List (List Int)),v=sl p (k * 64) (xs.length+1) c∧(c=128∨c=129)∧x::xs=all.drop k∧k < all.length∧S[j]?=some (p,⟨zXv all,w⟩)∧(∀ y ∈ all,y.length=64)∧((zXv all).drop (k * 64)).take 64=by8 x:=by
 rcases h with⟨_,h⟩|⟨p,k,c,j,w,all,h1,h2,h3,h4,h5,hc⟩
 ·cases h
 ·have hkl:k < all.length:=by
   have:=congrArg List.length h2
   rw[List.length_drop,List.length_cons] at this
   omega
  have hx:all[k]=x:=by
   rw[List.drop_eq_getElem_cons hkl] at h2
   injection h2 with h2 _
   exact h2.symm
  refine⟨hx ▸ h5 _ (List.getElem_mem hkl),p,k,c,j,w,all,h1,hc,h2,hkl,h4,h5,?_⟩
  have h6:=zMp (f:=by8) (l:=all) (n:=64) (o:=0) (m:=64) (fun s hx=>by rw[zsa]; exact h5 s hx) hkl (by omega)
  rw[Nat.add_zero] at h6
  unfold zXv
  rw[h6,List.drop_zero,hx]
  exact List.take_of_length_le (by rw[zsa,← hx,h5 _ (List.getElem_mem hkl)]; exact Nat.le_refl _)
theorem zkB{p o n c:Nat}(hc:c=128∨c=129):zWa 64 (sl p o (n+1) c) (some (int 1)) none none=some (sl p (o+64) n c):=by
 have e:Nat.beq (n+1) (n+1)=true:=Nat.beq_refl _
 rcases hc with rfl|rfl
 ·rfl
 ·show some (Value.slice (some ⟨p,o+1 * 64,none⟩) (n+1 - 1) (cond (false || Nat.beq (n+1) (n+1)) 129 128))=_
  rw[e]; rfl
theorem zZH{s:Ls}{token:Nat}{f:Mp→Mp × Int}(h:(s.as m token f).2=0):(f { m with who:=s.job }).2=0:=by
 unfold Ls.as at h
 split at h
 ·exact h
 ·cases h
theorem zaw{pt:Int}(h:(m.program pt pos x).2=0):pos < m.size pt:=by
 unfold Mp.program at h
 split at h
 ·rename_i h1; exact absurd h h1
 ·rename_i h1
  have h1:(m.place pt pos).2=0:=Classical.not_not.1 h1
  unfold Mp.place at h1
  split at h1
  ·cases h1
  ·split at h1
   ·cases h1
   ·rename_i h2 h3
    unfold Mp.size
    rw[if_pos (Classical.not_not.1 h2)]
    omega
theorem RdSec.tail(h:RdSec S v (x::xs)):∃ v',zWa 64 v (some (int 1)) none none=some v'∧RdSec S v' xs:=by
 obtain⟨hl,p,k,c,j,w,all,rfl,hc,h2,hk,h4,h5,_⟩:=h.cons
 refine⟨_,zkB hc,.inr ⟨p,k+1,c,j,w,all,?_,?_,by omega,h4,h5,hc⟩⟩
 ·rw[Nat.succ_mul]
 ·rw[List.drop_eq_getElem_cons hk] at h2
  injection h2
set_option maxHeartbeats 1000000 in
theorem zlB(hR:WrR S w B)(hss:w.ss=x::xs)(hm:w.m.Sm 1000000)(hO:WSt H S F w B)(hk:∀ H' B',B.Same B'→WrR S (w.fill x xs) B'→WSt H' S F (w.fill x xs) B'→K (.tuple [].toArray) H'):wCall P zJd [ptr B.c 0] H K:=by
 apply zdk; unfold zrh
 have hd:=hR.sd.dl
 have hrs:=hR.ss
 rw[hss] at hrs
 have hxb:By x:=hR.sb x (by rw[hss]; exact List.mem_cons_self)
 obtain⟨hl,p,k,c,j,wb,all,hv0,hc,h2,hkl,h4,h5,h6⟩:=hrs.cons
 refine zaa zda ?_
 refine zaa zca ?_
 refine wld hO 3 rfl (v:=ptr B.l 0) rfl ?_
 refine zaa zda ?_
 refine zaa zca ?_
 refine wld hO 3 rfl (v:=zsb .u64 w.token) rfl ?_
 refine zaa zda ?_
 refine zaa zca ?_
 refine wld hO 3 rfl (zeB hd) ?_
 refine zaa zda ?_
 refine zaa zca ?_
 refine wld hO 3 rfl (zdB hd) ?_
 rw[hv0]
 refine zaa (zfb (by omega) (by omega)) ?_
 refine zMa hO j (zwa (zwa (zwa h4))) (show _=by8 x by rw[show k * 64+(0:Int).toNat * 64=k * 64 by simp]; exact h6) (by rw[zsa]; exact hl) (by omega) ?_
 refine zHs (sec1:=x) hR.s hR.m.ok hm hl hO hR.own (zZv B w) ?_
 clear hO
 intro H L' he hO hv
 refine zaa zda ?_
 refine zaa zca ?_
 refine zhB hd he hO ?_
 clear hO
 intro H hO
 replace hO:WSt H S F (w.fills x) (B.at L'):=hO
 have hR1:WrR S (w.fills x) (B.at L'):=hR.put (zgG hR.m (zaq hl hxb)) hv
 have hB1:B.Same (B.at L'):=Wl.same_at he
 have hd1:=hR1.sd.dl
 refine zaa zda ?_
 refine zaa zca ?_
 refine wld hO 3 rfl (zmx hd1) ?_
 refine zaa zib ?_
 unfold Wr.fill at hk
 refine zna (fun h=>?_) (fun h=>?_)
 ·rw[if_pos h] at hk
  have hlt:(w.wr:Int) < w.m.size (w.s.part w.s.slot):=zaw (m:={ w.m with who:=w.s.job }) (zZH h)
  have hsz:=Mp.size_le hR.m.ok (part:=w.s.part w.s.slot)
  refine zaa zda ?_
  refine zaa zca ?_
  refine wld hO 3 rfl (zdB hd1) ?_
  obtain⟨v',e1,r1⟩:=hrs.tail
  refine zaa e1 ?_
  refine zaa zda ?_
  refine zaa zca ?_
  refine wst hO 3 (o:=0+42) rfl r1.one (by rw[Wl.wc,zlf hd1]; omega) (zfB hd1 v') ?_
  clear hO
  intro H hO
  refine zaa zda ?_
  refine zaa zca ?_
  refine wld hO 3 (v:=int w.wr) rfl (zeB hd1) ?_
  refine zaa (v:=int ((w.wr+1:Nat):Int)) (by rw[zYa (by omega) (by omega)]; rfl) ?_
  refine zaa zda ?_
  refine zaa zca ?_
  refine wst hO 3 (o:=0+43) rfl rfl (by rw[zlf hd1]; omega) (zjG hd1 (w.wr+1)) ?_
  clear hO
  intro H hO
  exact hk H { B.at L' with ssv:=v' } ⟨rfl,rfl,rfl,rfl,rfl,he⟩ ⟨hR1.q,hR1.sd,hR1.sv,r1,fun y hy=>hR.sb y (by rw[hss]; exact List.mem_cons_of_mem _ hy),hR1.s,hR1.m,hR1.own,hR1.nx,by show w.wr+1≤4096; omega⟩ hO
 ·rw[if_neg h] at hk
  exact hk H _ hB1 hR1 hO
end J
set_option maxRecDepth 100000
namespace J
open Go Go.Ab
variable{H:Heap}{Γ Λ Δ S F X N:List (Nat × Blk)}{K:VH}{v cv:Value}{cs cs':List Value}{p o k n:Nat}{e pos a gh:Int}{m:Mp}{L L':Mloc}{sd md:Mf}{w:Wr}{B B':Wl}{bs x:List Int}{xs:List (List Int)}{sn:Sn}
def Wr.beginE(w:Wr)(m:Mf):Int:=if ¬ znb m then 192 else if m.sz > 64 * (w.size:Int) then 145 else 0
def Wr.beginW(w:Wr)(m:Mf):Wr:=if w.beginE m=0 then { w with sd:=m,sg:=1 } else w
theorem Wr.begin_eq(w:Wr)(m:Mf):w.begin m={ w.beginW m with er:=w.beginE m }:=by
 unfold Wr.begin Wr.beginW
 by_cases h:znb m
 ·by_cases h2:m.sz > 64 * (w.size:Int)
  ·have e:w.beginE m=145:=by unfold Wr.beginE; rw[if_neg (by simp[h]),if_pos h2]
   rw[if_neg (by simp[h]),if_pos h2,e,if_neg (by decide)]
  ·have e:w.beginE m=0:=by unfold Wr.beginE; rw[if_neg (by simp[h]),if_neg h2]
   rw[if_neg (by simp[h]),if_neg h2,e,if_pos rfl]
 ·have e:w.beginE m=192:=by unfold Wr.beginE; rw[if_pos h]
  rw[if_pos h,e,if_neg (by decide)]
theorem WrR.er(h:WrR S w B)(e:Int):WrR S { w with er:=e } B:=⟨h.q,h.sd,h.sv,h.ss,h.sb,h.s,h.m,h.own,h.nx,h.wr⟩
theorem zlJ{t:TypeId}{c:Bool}{n:Nat}(h:n≤4096):(zma P .mul t c).f (.int .i64 64) (int n)=some (int (64 * (n:Int))):=zpr (by omega) (by omega)
theorem zvu(hR:WrR S w B)(ok:md.Ok)(hc:RdH S cv md.cks)(hO:WSt H S F w B)(hk:∀ H' B',B.Same B'→WrR S (w.beginW md) B'→WSt H' S F (w.beginW md) B'→K (int (w.beginE md)) H'):wCall P znd [ptr B.c 0,agg (int gh::mfC md cv)] H K:=by
 apply zyj; unfold zLg
 have hd:=hR.sd.dl
 rw[zfd]
 refine zHa hO ?_
 clear hO
 intro p3 H hO
 replace hO:=toF hO
 have h3:∀ {Δ},((((S++(F++[(p3,(⟨int gh::mfC md cv,true⟩:Blk))]))++B.blk w)++Δ))[S.length+(F.length+0)]?=some (p3,⟨int gh::mfC md cv,true⟩):=zwa (zwa (zua (zua rfl)))
 have hm37:((int gh::mfC md cv).drop (0+1)).take 37=mfC md cv:=List.take_of_length_le (Nat.le_of_eq (zUa ok.dl))
 have hsim:(⟨int gh::mfC md cv,true⟩:Blk).cells.all zSa=true:=by
  show (true && (mfC md cv).all zSa)=true
  rw[zIh hc.simple]; rfl
 refine zaa zca ?_
 refine zMa hO _ h3 hm37 (zUa ok.dl) (by omega) ?_
 refine zmr ok hc.app.app.app hO ?_
 clear hO
 intro H hO
 refine zaa zmc ?_
 by_cases hr:znb md
 ·refine zXa (by simp[hr]) ?_
  refine zaa zca ?_
  refine zaa zca ?_
  refine zga hO _ h3 (v:=int md.sz) rfl ?_
  refine zaa zda ?_
  refine zaa zca ?_
  refine wld hO 3 rfl (v:=ptr B.l 0) rfl ?_
  refine zaa zda ?_
  refine zaa zca ?_
  refine wld hO 3 rfl (v:=int w.slot) rfl ?_
  have hO1:=hO
  refine zsr hO (zZv B w) ?_
  clear hO
  intro H2 hO
  refine⟨same_at hO1 _ h3 hO _ h3 hsim,?_⟩
  have hsz:=Mp.size_le hR.m.ok (part:=w.s.part w.slot)
  refine zaa (zlJ hsz) ?_
  refine zaa zLf ?_
  refine zna (fun h=>?_) (fun h=>?_)
  ·have e:w.beginE md=145:=by unfold Wr.beginE; rw[if_neg (by simp[hr])]; exact if_pos h
   unfold Wr.beginW at hk
   rw[e,if_neg (by decide)] at hk
   exact hk H2 B .rfl' hR (zLD hO)
  ·have e:w.beginE md=0:=by unfold Wr.beginE; rw[if_neg (by simp[hr])]; exact if_neg h
   unfold Wr.beginW at hk
   rw[e,if_pos rfl] at hk
   refine zaa zca ?_
   refine zMa hO _ h3 hm37 (zUa ok.dl) (by omega) ?_
   refine zaa zda ?_
   refine zaa zca ?_
   refine zNc hO ((S++(F++[(p3,(⟨int gh::mfC md cv,true⟩:Blk))])).length+3) (zwa (zua rfl)) (zUa ok.dl) (by rw[Wl.wc,zlf hd]; omega) (zml hc.one) ?_
   clear hO hO1
   intro H hO
   rw[List.set_append_left _ _ (by simp[Wl.blk,wB]; omega),Go.Ab.set_r] at hO
   rw[show (B.wc w).take (0+4)++(zya (agg (mfC md cv))++(B.wc w).drop (0+4+37))=wrC B.l w.token w.slot B.A.r md cv w.nx B.ssv w.wr w.sg w.er from zgB hd ok.dl] at hO
   replace hO:WSt H S (F++[(p3,⟨int gh::mfC md cv,true⟩)]) { w with sd:=md } { B with sv:=cv }:=hO
   refine zaa zda ?_
   refine zaa zca ?_
   refine wst hO 3 (o:=0+44) rfl rfl (by rw[Wl.wc,zlf ok.dl]; omega) (zIs ok.dl 1) ?_
   clear hO
   intro H hO
   exact hk H { B with sv:=cv } ⟨rfl,rfl,rfl,rfl,rfl,.rfl'⟩ ⟨hR.q,ok,hc,hR.ss,hR.sb,hR.s,hR.m,hR.own,hR.nx,hR.wr⟩ (zLD hO)
 ·refine zsc (by simp[hr]) ?_
  have e:w.beginE md=192:=by unfold Wr.beginE; rw[if_pos hr]
  unfold Wr.beginW at hk
  rw[e,if_neg (by decide)] at hk
  exact hk H B .rfl' hR (zLD hO)
def Wr.bodyE(w:Wr)(a:Int)(bs:List Int):Int:=if a≠w.nx∨(zgd w.sd a).2=0∨(bs.length:Int)≠(zgd w.sd a).2 then 192 else 0
def Wr.bodyW(w:Wr)(a:Int)(bs:List Int):Wr:=if w.bodyE a bs=0 then { w with ss:=zxe bs,nx:=w.nx+1 } else w
theorem Wr.body_eq(w:Wr)(a:Int)(bs:List Int):w.body a bs={ w.bodyW a bs with er:=w.bodyE a bs }:=by
 unfold Wr.body Wr.bodyW
 by_cases h:a≠w.nx∨(zgd w.sd a).2=0∨(bs.length:Int)≠(zgd w.sd a).2
 ·have e:w.bodyE a bs=192:=by unfold Wr.bodyE; rw[if_pos h]
  rw[if_pos h,e,if_neg (by decide)]
 ·have e:w.bodyE a bs=0:=by unfold Wr.bodyE; rw[if_neg h]
  rw[if_neg h,e,if_pos rfl]
theorem zMD(h:(zgd sd a).2≠0):znb sd∧0≤a∧a < sd.cks.length∧sd.cks.length≤64∧0≤(zgd sd a).2∧(zgd sd a).2≤1024:=by
 unfold zgd at h ⊢
 split at h
 ·exact absurd rfl h
 ·rename_i h1
  have hr:znb sd:=Classical.byContradiction fun h2=>h1 (.inl h2)
  obtain⟨s1,s2,s3,s4⟩:=zFj (i:=a) hr (by omega) (by omega)
  obtain⟨_,_,_,_,_,k1,k2,_,_,hn⟩:=hr
  rw[if_neg h1]
  refine⟨by exact Classical.byContradiction fun h2=>h1 (.inl h2),by omega,by omega,hn,?_,?_⟩
  ·by_cases h5:a=(sd.cks.length:Int) - 1
   ·have:=s3 h5; simp only; omega
   ·have:=s4 h5; simp only; omega
  ·simp only; omega
theorem zND{b:List Int}(h:By b):∀ s ∈ zxe b,By s:=by
 intro s hs
 obtain⟨k,_,rfl⟩:=List.mem_map.1 hs
 intro x hx
 rcases List.mem_append.1 hx with h1|h1
 ·exact h x (List.mem_of_mem_drop (List.mem_of_mem_take h1))
 ·have:x=255:=List.eq_of_mem_replicate h1
  omega
theorem zmB{ss:List (List Int)}(hv:Own 64 v ss.length (zXv ss))(hl:∀ s ∈ ss,s.length=64):RdSec (zhb v (zXv ss)) v ss:=by
 rcases hv with⟨rfl,h,_⟩|⟨p,h,_⟩
 ·exact .inl ⟨rfl,List.length_eq_zero_iff.1 h⟩
 ·have hc:∃ c,v=sl p 0 ss.length c∧(c=128∨c=129):=by
   rcases h with rfl|rfl
   ·exact⟨_,rfl,.inl rfl⟩
   ·exact⟨_,rfl,.inr rfl⟩
  obtain⟨c,rfl,hc⟩:=hc
  exact .inr ⟨p,0,c,0,true,ss,by rw[Nat.zero_mul],rfl,by omega,rfl,hl,hc⟩
set_option maxHeartbeats 1000000 in
theorem zbw(hR:WrR S w B)(hv:RdB S v bs)(hb:By bs)(hO:WSt H S F w B)(hk:∀ H' B' X,B.Same B'→WrR (S++X) (w.bodyW a bs) B'→WSt H' (S++X) F (w.bodyW a bs) B'→K (int (w.bodyE a bs)) H'):wCall P zNd [ptr B.c 0,agg [int a,v]] H K:=by
 apply zmk; unfold zyh
 have hd:=hR.sd.dl
 have hk0:∀ H' B',B.Same B'→WrR S (w.bodyW a bs) B'→WSt H' S F (w.bodyW a bs) B'→K (int (w.bodyE a bs)) H':=fun H' B' h1 h2 h3=>hk H' B' [] h1 h2.app (by rw[List.append_nil]; exact h3)
 rw[zfd]
 refine zHa hO ?_
 clear hO
 intro p3 H hO
 replace hO:=toF hO
 have h3:∀ {Δ},((((S++(F++[(p3,(⟨[int a,v],true⟩:Blk))]))++B.blk w)++Δ))[S.length+(F.length+0)]?=some (p3,⟨[int a,v],true⟩):=zwa (zwa (zua (zua rfl)))
 refine zaa zda ?_
 refine zaa zca ?_
 refine zMa hO ((S++(F++[(p3,(⟨[int a,v],true⟩:Blk))])).length+3) (zwa (zua rfl)) (zXH hd) (zUa hd) (by omega) ?_
 refine zaa zca ?_
 refine zga hO _ h3 (v:=int a) rfl ?_
 refine zYA hR.sd hR.sv.app.app.app hO ?_
 clear hO
 intro H hO
 refine zaa rfl ?_
 refine zaa rfl ?_
 have hbad:(a≠w.nx∨(zgd w.sd a).2=0∨(bs.length:Int)≠(zgd w.sd a).2)→∀ H',WSt H' S (F++[(p3,⟨[int a,v],true⟩)]) w B→K (int 192) H':=by
  intro h H' hO
  have e:w.bodyE a bs=192:=by unfold Wr.bodyE; rw[if_pos h]
  unfold Wr.bodyW at hk0
  rw[e,if_neg (by decide)] at hk0
  exact hk0 H' B .rfl' hR (zLD hO)
 refine zva (fun l' H'=>l'=[ptr B.c 0,ptr p3 0]∧¬ (a≠w.nx∨(zgd w.sd a).2=0∨(bs.length:Int)≠(zgd w.sd a).2)∧WSt H' S (F++[(p3,⟨[int a,v],true⟩)]) w B) ?_ ?_
 ·refine zaa zca ?_
  refine zga hO _ h3 (v:=int a) rfl ?_
  refine zaa zda ?_
  refine zaa zca ?_
  refine wld hO 3 rfl (zcB hd) ?_
  refine zaa zGb ?_
  refine zna (fun h=>?_) (fun h=>?_)
  ·refine zaa (zNb h) ?_
   refine zaa zwb ?_
   refine zsc rfl ?_
   exact hbad (.inl h) H hO
  ·refine zaa zib ?_
   refine zaa (zuc h) ?_
   refine zna (fun h1=>?_) (fun h1=>?_)
   ·refine zaa (zNb h1) ?_
    refine zsc rfl ?_
    exact hbad (.inr (.inl h1)) H hO
   ·refine zaa zca ?_
    refine zga hO _ h3 (v:=v) rfl ?_
    refine zCa hv.lenSl ?_
    refine zaa zGb ?_
    refine zaa (zuc h1) ?_
    refine zna (fun h2=>?_) (fun h2=>?_)
    ·exact hbad (.inr (.inr h2)) H hO
    ·exact⟨rfl,fun h4=>by rcases h4 with h4|h4|h4; exact h h4; exact h1 h4; exact h2 h4,hO⟩
 clear hO
 rintro l' H ⟨rfl,hgood,hO⟩
 try simp only[zia,zja]
 have hsp:(zgd w.sd a).2≠0:=fun h=>hgood (.inr (.inl h))
 have han:a=w.nx:=Classical.byContradiction fun h=>hgood (.inl h)
 have hbl:(bs.length:Int)=(zgd w.sd a).2:=Classical.byContradiction fun h=>hgood (.inr (.inr h))
 obtain⟨_,g1,g2,g3,g4,g5⟩:=zMD hsp
 have e:w.bodyE a bs=0:=by unfold Wr.bodyE; rw[if_neg hgood]
 unfold Wr.bodyW at hk
 rw[e,if_pos rfl] at hk
 refine zaa zca ?_
 refine zga hO _ h3 (v:=v) rfl ?_
 refine zsu hO hv.app.app.app (by omega) ?_
 clear hO
 intro H vs hO hvs
 replace hO:=toS hO
 have hrs:RdSec (S++zhb vs (zXv (zxe bs))) vs (zxe bs):=by
  have:=zmB hvs zID
  rcases this with h|⟨p,k,c,j,w',all,h1,h2,h3,h4,h5⟩
  ·exact .inl h
  ·exact .inr ⟨p,k,c,S.length+j,w',all,h1,h2,h3,zua h4,h5⟩
 refine zaa zda ?_
 refine zaa zca ?_
 refine wst hO 3 (o:=0+42) rfl hrs.one (by rw[Wl.wc,zlf hd]; omega) (zfB hd vs) ?_
 clear hO
 intro H hO
 refine zaa zda ?_
 refine zaa zca ?_
 refine wld hO 3 (v:=int w.nx) rfl (zcB hd) ?_
 have hnx:=hR.nx
 refine zaa (v:=int ((w.nx+1:Nat):Int)) (by rw[zYa (by omega) (by omega)]; rfl) ?_
 refine zaa zda ?_
 refine zaa zca ?_
 refine wst hO 3 (o:=0+41) rfl rfl (by rw[zlf hd]; omega) (ziG hd (w.nx+1)) ?_
 clear hO
 intro H hO
 exact hk H { B with ssv:=vs } _ ⟨rfl,rfl,rfl,rfl,rfl,.rfl'⟩ ⟨hR.q.app,hR.sd,hR.sv.app,hrs,zND hb,hR.s,hR.m,hR.own,by show w.nx+1≤100; omega,hR.wr⟩ (zLD hO)
end J
set_option maxRecDepth 100000
namespace J
open Go Go.Ab
variable{H:Heap}{Γ Λ Δ S F X N:List (Nat × Blk)}{K:VH}{v cv:Value}{cs cs' el:List Value}{p o k n:Nat}{e pos a gh:Int}{m:Mp}{L L':Mloc}{sd md:Mf}{w:Wr}{B B':Wl}{bs x:List Int}{xs:List (List Int)}{sn:Sn}
theorem hGA(x:Value):zMb 49 (zTc P 49) (.iface 65 x)=some (.tuple #[agg (zc P 49),.bool false]):=by kernel_rfl
theorem hGG(x:Value):zMb 49 (zTc P 49) (.iface 49 x)=some (.tuple #[x,.bool true]):=by kernel_rfl
theorem hGB(x:Value):zMb 49 (zTc P 49) (.iface 54 x)=some (.tuple #[agg (zc P 49),.bool false]):=by kernel_rfl
theorem hGE(x:Value):zMb 49 (zTc P 49) (.iface 56 x)=some (.tuple #[agg (zc P 49),.bool false]):=by kernel_rfl
theorem hBA(x:Value):zMb 54 (zTc P 54) (.iface 65 x)=some (.tuple #[agg (zc P 54),.bool false]):=by kernel_rfl
theorem hBG(x:Value):zMb 54 (zTc P 54) (.iface 49 x)=some (.tuple #[agg (zc P 54),.bool false]):=by kernel_rfl
theorem hBB(x:Value):zMb 54 (zTc P 54) (.iface 54 x)=some (.tuple #[x,.bool true]):=by kernel_rfl
theorem hBE(x:Value):zMb 54 (zTc P 54) (.iface 56 x)=some (.tuple #[agg (zc P 54),.bool false]):=by kernel_rfl
theorem hEA(x:Value):zMb 56 (zTc P 56) (.iface 65 x)=some (.tuple #[agg (zc P 56),.bool false]):=by kernel_rfl
theorem hEG(x:Value):zMb 56 (zTc P 56) (.iface 49 x)=some (.tuple #[agg (zc P 56),.bool false]):=by kernel_rfl
theorem hEE(x:Value):zMb 56 (zTc P 56) (.iface 56 x)=some (.tuple #[x,.bool true]):=by kernel_rfl
theorem hPG(x:Value):zDd 49 (.iface 49 x)=some x:=by kernel_rfl
theorem hPE(x:Value):zDd 56 (.iface 56 x)=some x:=by kernel_rfl
theorem zox:zc P 54=[int 0,zBa]:=by kernel_rfl
theorem zmJ(hd:w.sd.dg.length=32)(hO:WSt H S F w B)(e:Int)(hk:∀ H',WSt H' S F { w with er:=e } B→K undef H'):opW (zka 1 (ptr B.c 45) (int e) H) K:=
 wst hO 3 (o:=0+45) rfl rfl (by rw[Wl.wc,zlf hd]; omega) (zYv hd e) hk
set_option maxHeartbeats 4000000 in
theorem znB(hR:WrR S w B)(hn:NtR S sn [v])(hO:WSt H S F w B)(hk:∀ H' B' X,B.Same B'→WrR (S++X) (w.heed sn) B'→WSt H' (S++X) F (w.heed sn) B'→K (.tuple [].toArray) H'):wCall P zyc [ptr B.c 0,v] H K:=by
 apply zfk; unfold zJe
 have hd:=hR.sd.dl
 have hk0:∀ H' B',B.Same B'→WrR S (w.heed sn) B'→WSt H' S F (w.heed sn) B'→K (.tuple [].toArray) H':=fun H' B' h1 h2 h3=>hk H' B' [] h1 h2.app (by rw[List.append_nil]; exact h3)
 refine zHa hO ?_
 clear hO
 intro p2 H hO
 replace hO:=toF hO
 replace hO:WSt H S (F++[(p2,⟨[ptr B.c 0],true⟩)]) w B:=hO
 have h2:∀ {Δ S' N' B' w'},((((S'++((F++[(p2,(⟨[ptr B.c 0],true⟩:Blk))])++N'))++Wl.blk B' w')++Δ))[S'.length+(F.length+0)]?=some (p2,⟨[ptr B.c 0],true⟩):=zwa (zwa (zua (zwa (zua rfl))))
 have h2':∀ {Δ S' B' w'},((((S'++(F++[(p2,(⟨[ptr B.c 0],true⟩:Blk))]))++Wl.blk B' w')++Δ))[S'.length+(F.length+0)]?=some (p2,⟨[ptr B.c 0],true⟩):=zwa (zwa (zua (zua rfl)))
 refine zga hO _ h2' (v:=ptr B.c 0) rfl ?_
 refine zaa zda ?_
 refine zaa zca ?_
 refine wld hO 3 rfl (zuu hd) ?_
 refine zaa zib ?_
 have fin:∀ (e:Int) (w1:Wr) (B1:Wl) (H1:Heap) (S1:List (Nat × Blk)) (X:List (Nat × Blk)),S1=S++X→B.Same B1→WrR S1 w1 B1→WSt H1 S1 (F++[(p2,⟨[ptr B.c 0],true⟩)]) w1 B1→w.heed sn={ w1 with er:=e } →
   opW (zka 1 (ptr B1.c 45) (int e) H1) fun u H2=>K (.tuple [].toArray) H2:=by
  intro e w1 B1 H1 S1 X hS hB hR1 hO1 he
  subst hS
  refine zmJ hR1.sd.dl hO1 e ?_
  intro H2 hO2
  refine hk H2 B1 X hB ?_ ?_
  ·rw[he]; exact hR1.er e
  ·rw[he]; exact zLD hO2
 refine zna (fun h=>?_) (fun h=>?_)
 ·-- it waits
  have hsg:w.sg=0:=by omega
  have bad:w.heed sn={ w with er:=192 }→opW (zba (ptr p2 0) H) fun t44 H23=>
    opP (zea t44) fun t45=>opP (zfa 45 t45) fun t46=>opW (zka 1 t46 (.int .i64 192) H23) fun u_1 H27=>K (.tuple [].toArray) H27:=by
   intro he
   refine zga hO _ h2' (v:=ptr B.c 0) rfl ?_
   refine zaa zda ?_
   refine zaa zca ?_
   exact fin 192 w B H S [] (by rw[List.append_nil]) .rfl' hR hO he
  cases sn with
  | again a=>
   have hn:[v]=[.iface 65 (agg [int a])]:=hn
   injection hn with hn _
   subst hn
   refine zaa (hGA _) ?_
   refine zaa (show _=some (Value.bool false) from rfl) ?_
   refine zXa rfl ?_
   exact bad (by unfold Wr.heed; rw[if_pos hsg])
  | body a bs=>
   obtain⟨v1,hn,_⟩:=hn
   injection hn with hn _
   subst hn
   refine zaa (hGB _) ?_
   refine zaa (show _=some (Value.bool false) from rfl) ?_
   refine zXa rfl ?_
   exact bad (by unfold Wr.heed; rw[if_pos hsg])
  | fin=>
   have hn:[v]=[.iface 56 (agg [])]:=hn
   injection hn with hn _
   subst hn
   refine zaa (hGE _) ?_
   refine zaa (show _=some (Value.bool false) from rfl) ?_
   refine zXa rfl ?_
   exact bad (by unfold Wr.heed; rw[if_pos hsg])
  | go gh md=>
   obtain⟨cv,hn,hc,ok⟩:=hn
   injection hn with hn _
   subst hn
   refine zaa (hGG _) ?_
   refine zaa (show _=some (Value.bool true) from rfl) ?_
   refine zsc rfl ?_
   refine zga hO _ h2' (v:=ptr B.c 0) rfl ?_
   refine zga hO _ h2' (v:=ptr B.c 0) rfl ?_
   refine zaa (hPG _) ?_
   have hO1:=hO
   refine zvu hR ok hc hO ?_
   clear hO
   intro H2 B' hB hR2 hO
   refine⟨same_at hO1 _ h2' hO _ h2' rfl,?_⟩
   refine zaa zda ?_
   refine zaa zca ?_
   rw[← hB.c]
   exact fin (w.beginE md) (w.beginW md) B' H2 S [] (by rw[List.append_nil]) hB hR2 hO (by unfold Wr.heed; rw[if_pos hsg]; exact w.begin_eq md)
 ·have hsg:¬ w.sg=0:=by omega
  cases sn with
  | body a bs=>
   obtain⟨v1,hn,hv1,hby⟩:=hn
   injection hn with hn _
   subst hn
   obtain⟨a1,n1,c1,hsh⟩:=hv1.shape
   refine zaa (hBB _) ?_
   refine zaa (show _=some (agg [int a,v1]) from rfl) ?_
   refine zaa (show _=some (Value.bool true) from rfl) ?_
   rw[zox]
   refine zHa hO ?_
   clear hO
   intro p4 H hO
   refine zra hO (_+0) (zua rfl) rfl rfl (by rw[hsh]; rfl) ?_
   clear hO
   intro H hO
   replace hO:=toF hO.set_r
   replace hO:WSt H S ((F++[(p2,⟨[ptr B.c 0],true⟩)])++[(p4,⟨[int a,v1],true⟩)]) w B:=hO
   refine zsc rfl ?_
   refine zga hO _ h2 (v:=ptr B.c 0) rfl ?_
   refine zga hO _ h2 (v:=ptr B.c 0) rfl ?_
   refine zta hO (S.length+((F++[(p2,(⟨[ptr B.c 0],true⟩:Blk))]).length+0)) (zwa (zwa (zua (zua rfl)))) rfl (by omega) ?_
   have hO1:=hO
   refine zbw hR hv1 hby hO ?_
   clear hO
   intro H2 B' X hB hR2 hO
   refine⟨same_at hO1 _ h2 hO _ h2 rfl,?_⟩
   refine zaa zda ?_
   refine zaa zca ?_
   rw[← hB.c]
   exact fin (w.bodyE a bs) (w.bodyW a bs) B' H2 (S++X) X rfl hB hR2 (zLD hO) (by unfold Wr.heed; rw[if_neg hsg]; exact w.body_eq a bs)
  | again a=>
   have hn:[v]=[.iface 65 (agg [int a])]:=hn
   injection hn with hn _
   subst hn
   refine zaa (hBA _) ?_
   refine zaa (show _=some (agg (zc P 54)) from rfl) ?_
   refine zaa (show _=some (Value.bool false) from rfl) ?_
   rw[zox]
   refine zHa hO ?_
   clear hO
   intro p4 H hO
   refine zra hO (_+0) (zua rfl) rfl rfl rfl ?_
   clear hO
   intro H hO
   have hO:=hO.set_r.left
   refine zXa rfl ?_
   refine zaa (hEA _) ?_
   refine zaa (show _=some (Value.bool false) from rfl) ?_
   refine zXa rfl ?_
   refine zga hO _ h2' (v:=ptr B.c 0) rfl ?_
   refine zaa zda ?_
   refine zaa zca ?_
   exact fin 192 w B H S [] (by rw[List.append_nil]) .rfl' hR hO (by unfold Wr.heed; rw[if_neg hsg])
  | go gh md=>
   obtain⟨cv,hn,hc,ok⟩:=hn
   injection hn with hn _
   subst hn
   refine zaa (hBG _) ?_
   refine zaa (show _=some (agg (zc P 54)) from rfl) ?_
   refine zaa (show _=some (Value.bool false) from rfl) ?_
   rw[zox]
   refine zHa hO ?_
   clear hO
   intro p4 H hO
   refine zra hO (_+0) (zua rfl) rfl rfl rfl ?_
   clear hO
   intro H hO
   have hO:=hO.set_r.left
   refine zXa rfl ?_
   refine zaa (hEG _) ?_
   refine zaa (show _=some (Value.bool false) from rfl) ?_
   refine zXa rfl ?_
   refine zga hO _ h2' (v:=ptr B.c 0) rfl ?_
   refine zaa zda ?_
   refine zaa zca ?_
   exact fin 192 w B H S [] (by rw[List.append_nil]) .rfl' hR hO (by unfold Wr.heed; rw[if_neg hsg])
  | fin=>
   have hn:[v]=[.iface 56 (agg [])]:=hn
   injection hn with hn _
   subst hn
   refine zaa (hBE _) ?_
   refine zaa (show _=some (agg (zc P 54)) from rfl) ?_
   refine zaa (show _=some (Value.bool false) from rfl) ?_
   rw[zox]
   refine zHa hO ?_
   clear hO
   intro p4 H hO
   refine zra hO (_+0) (zua rfl) rfl rfl rfl ?_
   clear hO
   intro H hO
   have hO:=hO.set_r.left
   refine zXa rfl ?_
   refine zaa (hEE _) ?_
   refine zaa (show _=some (Value.bool true) from rfl) ?_
   refine zsc rfl ?_
   refine zaa (hPE _) ?_
   refine zga hO _ h2' (v:=ptr B.c 0) rfl ?_
   refine zaa zda ?_
   refine zaa zca ?_
   refine wld hO 3 rfl (zcB hd) ?_
   refine zga hO _ h2' (v:=ptr B.c 0) rfl ?_
   refine zaa zda ?_
   refine zaa zca ?_
   refine zaa zca ?_
   refine wld hO 3 rfl (zhG hd) ?_
   refine zCa hR.sv.lenSl ?_
   refine zaa zIa ?_
   refine zna (fun h1=>?_) (fun h1=>?_)
   ·refine zga hO _ h2' (v:=ptr B.c 0) rfl ?_
    refine zaa zda ?_
    refine zaa zca ?_
    exact fin 192 w B H S [] (by rw[List.append_nil]) .rfl' hR hO (by unfold Wr.heed; rw[if_neg hsg]; exact if_pos (by omega))
   ·refine zga hO _ h2' (v:=ptr B.c 0) rfl ?_
    refine zaa zda ?_
    refine zaa zca ?_
    refine wst hO 3 (o:=0+44) rfl rfl (by rw[Wl.wc,zlf hd]; omega) (zIs hd 3) ?_
    clear hO
    intro H hO
    have he:w.heed .fin={ w with sg:=3 }:=by unfold Wr.heed; rw[if_neg hsg]; exact if_neg (by omega)
    rw[he] at hk0
    exact hk0 H B .rfl' ⟨hR.q,hR.sd,hR.sv,hR.ss,hR.sb,hR.s,hR.m,hR.own,hR.nx,hR.wr⟩ (zLD hO)
theorem RgN.tail{R:Ring}{l:List Sn}(h:RgN S R (sn::l)):∃ a es,R.es=[a]::es∧NtR S sn [a]∧Al (NtR S) l es:=by
 have ha:=h.al
 generalize hes:R.es=es0 at ha
 cases ha with
 | cons h1 h2=>
  rename_i b m
  have:b.length=1:=h.rg.wl b (by rw[hes]; exact List.mem_cons_self)
  obtain⟨a,rfl⟩:=List.length_eq_one_iff.1 this
  exact⟨a,m,rfl,h1,h2⟩
theorem zoB(h:St H (((S++F)++Λ)++Δ)):St H ((S++F)++(Λ++Δ)):=by rw[← List.append_assoc]; exact h
theorem zcw(hR:WrR S w B)(hsz:0≤w.sd.sz)(hm:w.m.Sm 1000000)(hO:WSt H S F w B)(hk:∀ H' B' X,B.Same B'→WrR (S++X) w.step.2 B'→WSt H' (S++X) F w.step.2 B'→K (.bool w.step.1) H'):wCall P zGa [ptr B.c 0] H K:=by
 apply zYj; unfold zkh
 have hd:=hR.sd.dl
 have hk0:∀ H' B',B.Same B'→WrR S w.step.2 B'→WSt H' S F w.step.2 B'→K (.bool w.step.1) H':=fun H' B' h1 h2 h3=>hk H' B' [] h1 h2.app (by rw[List.append_nil]; exact h3)
 refine zva (fun l' H'=>l'=[ptr B.c 0,.bool (decide (w.er≠0∨w.sg=4))]∧H'=H) ?_ ?_
 ·refine zaa zda ?_
  refine zaa zca ?_
  refine wld hO 3 rfl (zmx hd) ?_
  refine zaa zGb ?_
  refine zna (fun h=>?_) (fun h=>?_)
  ·refine zaa (zNb h) ?_
   exact⟨by simp[h],rfl⟩
  ·refine zaa zda ?_
   refine zaa zca ?_
   refine wld hO 3 rfl (zuu hd) ?_
   refine zaa zib ?_
   refine zaa (zuc h) ?_
   refine⟨?_,rfl⟩
   rw[decide_eq_decide.2 (show ((w.sg:Int)=4)↔(w.er≠0∨w.sg=4) from⟨fun h1=>.inr (by omega),fun h1=>by rcases h1 with h1|h1; exact absurd h1 h; omega⟩)]
 rintro l' H' ⟨rfl,rfl⟩
 try simp only[zia,zja]
 unfold Wr.step at hk hk0
 refine zna (fun h=>?_) (fun h=>?_)
 ·rw[if_pos h] at hk0
  exact hk0 _ B .rfl' hR hO
 rw[if_neg h] at hk0 hk
 refine zaa zda ?_
 refine zaa zca ?_
 refine wld hO 3 rfl (zuu hd) ?_
 refine zaa zib ?_
 refine zna (fun h1=>?_) (fun h1=>?_)
 ·rw[if_pos (by omega)] at hk0
  exact zjB hR hm hO hk0
 rw[if_neg (by omega)] at hk0 hk
 refine zaa zda ?_
 refine zaa zca ?_
 refine wld hO 3 rfl (zuu hd) ?_
 refine zaa zib ?_
 refine zna (fun h2=>?_) (fun h2=>?_)
 ·rw[if_pos (by omega)] at hk0
  exact zCy hR hsz hm hO hk0
 rw[if_neg (by omega)] at hk0 hk
 refine zaa zda ?_
 refine zaa zca ?_
 refine wld hO 3 rfl (zdB hd) ?_
 refine zCa hR.ss.lenSl ?_
 refine zaa zLf ?_
 cases hss:w.ss with
 | cons x xs=>
  rw[hss] at hk0
  refine zsc (by simp) ?_
  exact zlB hR hss hm hO hk0
 | nil=>
  rw[hss] at hk0 hk
  refine zXa (by simp) ?_
  refine zaa zda ?_
  refine zaa zca ?_
  refine wld hO 3 rfl (v:=ptr B.A.r 0) rfl ?_
  have hq:=hR.q
  refine zwy (Γ:=S++F) (i:=1) (j:=0) (zoB hO) rfl rfl (by decide) hq.rg ?_ ?_
  ·intro he
   have hq0:w.q=[]:=by
    have:=hq.len
    rw[he] at this
    exact List.length_eq_zero_iff.1 this.symm
   rw[hq0] at hk0
   refine zaa zXt ?_
   refine zaa zYt ?_
   refine zaa zmc ?_
   refine zsc rfl ?_
   exact hk0 _ B .rfl' hR hO
  ·intro a er he H2 cs' hrg hO2
   cases hwq:w.q with
   | nil=>
    rw[hwq] at hq
    have:=hq.len
    rw[he] at this
    simp at this
   | cons sn l=>
    rw[hwq] at hk hq
    obtain⟨a',es',he',hnt,hal⟩:=hq.tail
    rw[he] at he'
    injection he' with e1 e2
    injection e1 with e1 _
    subst e1 e2
    refine zaa zXt ?_
    refine zaa zYt ?_
    refine zaa zmc ?_
    refine zXa rfl ?_
    replace hO2:WSt H2 S F { w with q:=l } { B with A:=B.A.rest cs' er }:=by
     show St H2 (((S++F)++wB (B.A.rest cs' er) B.l _ B.c _)++MW B.L w.m)
     rw[List.append_assoc]
     exact hO2
    have hR2:WrR S { w with q:=l } { B with A:=B.A.rest cs' er }:=⟨⟨hrg,hal⟩,hR.sd,hR.sv,hR.ss,hR.sb,hR.s,hR.m,hR.own,hR.nx,hR.wr⟩
    refine znB (B:={ B with A:=B.A.rest cs' er }) hR2 hnt hO2 ?_
    intro H3 B3 X hB hR3 hO3
    rw[hss] at hR3 hO3
    exact hk H3 B3 X ⟨hB.r,hB.q,hB.n,hB.l,hB.c,hB.L⟩ hR3 hO3
end J
set_option maxRecDepth 100000
namespace J
open Go Go.Ab
variable{H:Heap}{Γ Λ Δ S F X N:List (Nat × Blk)}{K:VH}{v cv:Value}{cs cs' el:List Value}{p l:Nat}{e pos a job i room:Int}{m:Mp}{L L':Mloc}{w:Wr}{B B':Wl}{s:Ls}
def Ls.takes(s:Ls)(job i:Int):Nat × Int × Ls:=if i < 0∨2≤i∨job < 1 then (0,101,s) else if s.tok≠0 then (0,161,s) else (s.gv+1,0,{ s with job:=job,slot:=i,tok:=s.gv+1,gv:=s.gv+1 })
theorem zaI(a b:Int)(n:Nat):(zxa P 116).f [(0,int a),(1,int b),(2,zsb .u64 n)]=some (agg [int a,int b,zsb .u64 n]):=by kernel_rfl
theorem zwu(hg:s.gv < 1000)(hO:St H ((Γ++[(l,⟨lsC s p,true⟩)])++Δ))(hk:∀ H',St H' ((Γ++[(l,⟨lsC (s.takes job i).2.2 p,true⟩)])++Δ)→K (.tuple [zsb .u64 (s.takes job i).1,int (s.takes job i).2.1].toArray) H'):wCall P zPc [ptr l 0,int job,int i] H K:=by
 apply zal; unfold zxi
 unfold Ls.takes at hk
 refine zva (fun l' H'=>l'=[ptr l 0,int job,int i,.bool (decide (i < 0∨2≤i∨job < 1))]∧H'=H) ?_ ?_
 ·refine zaa zIa ?_
  refine zna (fun h=>?_) (fun h=>?_)
  ·refine zaa (zNb h) ?_
   refine zaa zwb ?_
   exact⟨by simp[h],rfl⟩
  ·refine zaa zMf ?_
   refine zaa (zuc h) ?_
   refine zna (fun h1=>?_) (fun h1=>?_)
   ·refine zaa (zNb h1) ?_
    exact⟨by simp; omega,rfl⟩
   ·refine zaa zIa ?_
    refine zaa (zuc h1) ?_
    refine⟨?_,rfl⟩
    rw[decide_eq_decide.2 (show (job < 1)↔(i < 0∨2≤i∨job < 1) by omega)]
 rintro l' H' ⟨rfl,rfl⟩
 try simp only[zia,zja]
 refine zna (fun h=>?_) (fun h=>?_)
 ·rw[if_pos h] at hk
  exact hk _ hO
 rw[if_neg h] at hk
 refine zaa zda ?_
 refine zaa zca ?_
 refine zMa hO (Γ.length+0) (zwa (zua rfl)) (cs:=[int s.job,int s.slot,zsb .u64 s.tok]) rfl rfl (by omega) ?_
 refine zru hO ?_
 clear hO
 intro H hO
 refine zna (fun h1=>?_) (fun h1=>?_)
 ·rw[if_pos h1] at hk
  exact hk H hO
 rw[if_neg h1] at hk
 refine zaa zda ?_
 refine zaa zca ?_
 refine wld hO 0 rfl (v:=zsb .u64 s.gv) rfl ?_
 refine zaa (v:=zsb .u64 (s.gv+1)) ?_ ?_
 ·rw[show (.int .u64 1:Value)=zsb .u64 1 from rfl,zOc rfl]
  show some (zsb .u64 ((s.gv+1) % 18446744073709551616))=_
  rw[Nat.mod_eq_of_lt (by omega)]
 refine zaa zda ?_
 refine zaa zca ?_
 refine wst hO 0 (o:=0+6) rfl rfl (show 6 < 7 by omega) rfl ?_
 clear hO
 intro H hO
 refine zaa zda ?_
 refine zaa zca ?_
 refine wld hO 0 rfl (v:=zsb .u64 (s.gv+1)) rfl ?_
 refine zaa (zaI _ _ _) ?_
 refine zaa zda ?_
 refine zaa zca ?_
 refine zNc hO (Γ.length+0) (zwa (zua rfl)) rfl (show 0+0+3≤7 by omega) rfl ?_
 clear hO
 intro H hO
 rw[List.set_append_left _ _ (by simp),Go.Ab.set_r] at hO
 refine zaa zda ?_
 refine zaa zca ?_
 refine wld hO 0 rfl (v:=zsb .u64 (s.gv+1)) rfl ?_
 exact hk H hO
theorem zbI(pm:Nat)(a b:Int):(zxa P 118).f [(1,ptr pm 0),(2,agg [int a,int b])]=some (agg (lsC ⟨0,0,0,0,a,b⟩ pm)):=by kernel_rfl
theorem zpB{pm:Nat}{a b:Int}(hO:St H Γ)(hk:∀ H' l,St H' (Γ++[(l,⟨lsC ⟨0,0,0,0,a,b⟩ pm,true⟩)])→K (ptr l 0) H'):wCall P zRk [ptr pm 0,agg [int a,int b]] H K:=by
 apply zSt; unfold zRt
 rw[zfd]
 refine zHa hO ?_
 clear hO
 intro p3 H hO
 refine zta hO (Γ.length+0) (zua rfl) (n:=2) rfl (by omega) ?_
 refine zaa (zbI _ _ _) ?_
 rw[zfd]
 refine zHa hO ?_
 clear hO
 intro l H hO
 refine hk H l (hO.sub ?_)
 exact List.Sublist.append (List.sublist_append_left Γ _) (List.Sublist.refl _)
theorem bWr(l r:Nat)(t:Nat)(i:Int):(zxa P 107).f [(0,ptr l 0),(1,zsb .u64 t),(2,int i),(3,ptr r 0)]=some (agg (wrC l t i r m0 zBa 0 zBa 0 0 0)):=by kernel_rfl
theorem zDy{r t:Nat}(hO:St H Γ)(hk:∀ H' c,St H' (Γ++[(c,⟨wrC l t i r m0 zBa 0 zBa 0 0 0,true⟩)])→K (ptr c 0) H'):wCall P zSk [ptr l 0,zsb .u64 t,int i,ptr r 0] H K:=by
 apply zUt; unfold zTt
 refine zaa (bWr _ _ _ _) ?_
 rw[zfd]
 refine zHa hO ?_
 clear hO
 intro c H hO
 exact hk H c hO
def bnC(B:Wl):List Value:=[ptr B.L.pm 0,ptr B.l 0,ptr B.A.r 0,ptr B.c 0,zsb .u64 1]
def w0(sectors:Nat)(slot:Int):Wr:=⟨⟨5,slot,1,1,0,1⟩,1,slot,[],m0,0,[],0,0,0,⟨Dv.new 60 100,spansFrom 0 [sectors,sectors],0,[]⟩⟩
theorem znJ(p:Nat):(zma P .eql 37 true).f (ptr p 0) (.pointer none)=some (.bool false):=by kernel_rfl
theorem zoJ(p:Nat):(zma P .eql 38 true).f (ptr p 0) (.pointer none)=some (.bool false):=by kernel_rfl
theorem zpJ(p:Nat):(zma P .eql 39 true).f (ptr p 0) (.pointer none)=some (.bool false):=by kernel_rfl
theorem zqJ(p:Nat):(zma P .eql 40 true).f (ptr p 0) (.pointer none)=some (.bool false):=by kernel_rfl
theorem zqB(p:Nat):(zma P .eql 34 true).f (ptr p 0) (.pointer none)=some (.bool false):=by kernel_rfl
theorem zcI:(zxa P 90).f [(0,(.int .i64 0)),(1,(.int .i64 1))]=some (agg [int 0,int 1]):=by kernel_rfl
theorem zkG(a b:Int)(H:Heap):(zoa P 126 2).f [(0,int a),(1,int b)] H=some (sl H.next 0 2 3,H.push [int a,int b]):=by kernel_rfl
theorem zdI(a b c d:Nat)(n:Nat):(zxa P 42).f [(0,ptr a 0),(1,ptr b 0),(2,ptr c 0),(3,ptr d 0),(4,zsb .u64 n)]=some (agg [ptr a 0,ptr b 0,ptr c 0,ptr d 0,zsb .u64 n]):=by kernel_rfl
set_option maxHeartbeats 2000000 in
theorem zIj{n:Nat}(h1:1≤n)(h20:n≤20)(hi:0≤i∧i≤1)(hO:St H (S++F))(hk:∀ H' b B,B.A.n=zgg room→WrR S (w0 n i) B→WSt H' S (F++[(b,⟨bnC B,true⟩)]) (w0 n i) B→K (ptr b 0) H'):wCall P zZc [int n,int 100,int i,int room] H K:=by
 apply zqs; unfold zYq
 refine zBA (n:=60) (w:=100) (by omega) (by omega) hO ?_
 clear hO
 intro H pd pc hO
 refine zbb hO (zkG _ _ _) ?_
 clear hO
 intro q H hO
 refine zDA (sizes:=[n,n]) (jz:=(S++F).length+0) (c:=3) (Dv.new_ok (by omega) (by omega)) hO.rot (zua rfl) (by simp) (by simp) (fun x hx=>by simp at hx; omega) (by simp[Dv.new]; omega) (.inl ⟨rfl,rfl,rfl⟩) ?_
 clear hO
 intro H pm ps hO hv
 replace hO:St H (((S++F)++[(q,⟨[int n,int n],true⟩)])++MW ⟨pm,pd,pc,ps,zBa,zBa⟩ ⟨Dv.new 60 100,spansFrom 0 [n,n],0,[]⟩):=hO
 refine zaa zXt ?_
 refine zaa zYt ?_
 refine zaa (znJ _) ?_
 refine zXa rfl ?_
 refine zaa zcI ?_
 refine zpB hO ?_
 clear hO
 intro H l hO
 refine zXA hO ?_
 clear hO
 intro H rq r rc hrg hO
 have e:(⟨0,0,0,0,0,1⟩:Ls).takes 5 i=(1,0,⟨5,i,1,1,0,1⟩):=by
  unfold Ls.takes
  rw[if_neg (by omega),if_neg (by decide)]
 refine zva (fun l' H'=>l'=[int i,ptr pm 0,ptr l 0,ptr r 0]∧H'=H) ?_ ?_
 ·refine zaa (zoJ _) ?_
  refine zXa rfl ?_
  refine zaa (zpJ _) ?_
  refine zaa zVa ?_
  refine zXa rfl ?_
  exact⟨rfl,rfl⟩
 rintro l' H' ⟨rfl,rfl⟩
 try simp only[zia,zja]
 rw[← List.append_assoc] at hO
 refine zwu (by decide) hO ?_
 clear hO
 intro H hO
 rw[e] at hO ⊢
 refine zaa zXt ?_
 refine zaa zYt ?_
 refine zaa zGb ?_
 refine zXa rfl ?_
 refine zDy hO ?_
 clear hO
 intro H c hO
 refine zaa (zqJ _) ?_
 refine zXa rfl ?_
 refine zaa (zdI _ _ _ _ _) ?_
 rw[zfd]
 refine zHa hO ?_
 clear hO
 intro b H hO
 refine hk H b ⟨⟨rq,r,zgg room,0,rc,[]⟩,zBa,zBa,l,c,⟨pm,pd,pc,ps,zBa,zBa⟩⟩ rfl ?_ ?_
 ·refine⟨⟨hrg,.nil⟩,zOH,RdH.nil,.inl ⟨rfl,rfl⟩,?_,⟨⟨hi.1,by show i < 2; omega⟩,⟨by show (0:Int)≤0; omega,by show (0:Int)≤1; omega⟩⟩,⟨⟨Dv.new_ok (by omega) (by omega),?_,by show (spansFrom 0 [n,n]).length≤16; rw[zPp]; show 2≤16; omega⟩,?_⟩,hv,by show 0≤100; omega,by show 0≤4096; omega⟩
  ·intro x hx; cases hx
  ·intro x hx
   have hx:x ∈ [(0,n),(0+n,n)]:=hx
   show x.1+x.2≤(List.replicate 60 zxf).length
   simp at hx
   rw[List.length_replicate]
   rcases hx with rfl|rfl
   ·show 0+n≤60; omega
   ·show n+n≤60; omega
  ·intro c hc x hx
   have:c=zxf:=List.eq_of_mem_replicate hc
   subst this
   have:x=255:=List.eq_of_mem_replicate hx
   omega
 ·have h5:St H ((((S++(F++[(b,⟨bnC ⟨⟨rq,r,zgg room,0,rc,[]⟩,zBa,zBa,l,c,⟨pm,pd,pc,ps,zBa,zBa⟩⟩,true⟩)]))++wB ⟨rq,r,zgg room,0,rc,[]⟩ l (lsC ⟨5,i,1,1,0,1⟩ pm) c (wrC l 1 i r m0 zBa 0 zBa 0 0 0))++MW ⟨pm,pd,pc,ps,zBa,zBa⟩ ⟨Dv.new 60 100,spansFrom 0 [n,n],0,[]⟩)++[(q,⟨[int n,int n],true⟩)]):=by
   refine hO.perm ?_
   classical
   exact List.perm_iff_count.2 fun z=>by
    simp only[bnC,wB,List.count_append,List.count_cons,List.count_nil,List.map,List.length_nil]
    omega
  exact h5.left
end J
set_option maxRecDepth 100000
namespace J
open Go Go.Ab
variable{H:Heap}{Γ Γ0 Γ2 Δ G L S T X F:List (Nat × Blk)}{K:VH}{v w x cv dv kv:Value}{xs ys zs bs b key ms:List Int}{i j p q r o n k f:Nat}{e er:Int}{cs cs':List Value}{l pr:List UInt8}{m sd:Mf}{ver:Nat}{ck:Int}
theorem _root_.Go.Ab.Own.one1{size:Nat}(h:Own size v n cs):oneCell v=true:=by
 rcases h with⟨rfl,_⟩|⟨p,rfl|rfl,_⟩ <;> rfl
theorem zlG(hd:m.dg.length=32):(mfC m cv).set (0+36) v=mfC m v:=by
 unfold mfC
 rw[show (str m.pr::zsb .u64 m.ver::int m.sz::int m.ck::(by8 m.dg++[cv]))=(str m.pr::zsb .u64 m.ver::int m.sz::int m.ck::by8 m.dg)++[cv] from rfl,List.set_append_right _ _ (by simp[hd])]
 simp[hd]
theorem kpG{q o n c j:Nat}(hO:St H Γ)(hi:Γ[j]?=some (q,⟨cs,true⟩))(hn:0 < n)(hk:K (Go.Ab.sl q o n c) H):opW (zjn (Go.Ab.sl q o n c) H) K:=by
 have hj:=(List.getElem?_eq_some_iff.1 hi).1
 refine kp (Γ:=[]) (L:=Γ) (cs:=cs) (by simpa using hO) j hi hn hk
def zeI(b:List Int)(C i:Nat):List Int:=sha ((b.drop (i * C)).take C)
def mkY(pr:List UInt8)(ver:Nat)(ck:Int)(b:List Int)(y:Nat):Mf:=⟨pr,ver,b.length,ck,sha b,(List.range y).map (zeI b ck.toNat)⟩
def mkF(pr:List UInt8)(ver:Nat)(ck:Int)(b:List Int):Mf:=mkY pr ver ck b (cnt b.length ck).toNat
theorem znl{y:Nat}:(mkY pr ver ck b y).cks.length=y:=by simp[mkY]
theorem zpx{y:Nat}(hv:ver < 18446744073709551616)(hc:-9223372036854775808≤ck∧ck≤9223372036854775807)(hl:b.length≤1000000)(hp:pr.length≤10000)(hy:y≤10000):(mkY pr ver ck b y).Ok:=by
 refine⟨zdn,zxE,?_,?_,hv,⟨by show -9223372036854775808≤((b.length:Nat):Int); omega,by show ((b.length:Nat):Int)≤_; omega⟩,hc,by rw[znl]; exact hy,hp⟩
 ·intro x hx
  obtain⟨i,_,rfl⟩:=List.mem_map.1 hx
  exact zdn
 ·intro x hx
  obtain⟨i,_,rfl⟩:=List.mem_map.1 hx
  exact zxE
theorem bMk(pr:List UInt8)(ver:Nat)(sz ck:Int)(dg:List Int)(hd:dg.length=32):(zxa P 31).f [(0,str pr),(1,zsb .u64 ver),(2,int sz),(3,int ck),(4,agg (by8 dg))]=some (agg (mfC ⟨pr,ver,sz,ck,dg,[]⟩ zBa)):=by
 match dg,hd with
 | [a0,a1,a2,a3,a4,a5,a6,a7,a8,a9,a10,a11,a12,a13,a14,a15,a16,a17,a18,a19,a20,a21,a22,a23,a24,a25,a26,a27,a28,a29,a30,a31],_=>show _=_; kernel_rfl
theorem zJJ:(zxa P 31).f []=some (agg (mfC m0 zBa)):=by kernel_rfl
theorem zfI{m a:Mf}(h1:m.pr=a.pr)(h2:m.ver=a.ver)(h3:m.sz=a.sz)(h4:m.ck=a.ck)(h5:m.dg=a.dg):mfC m v=mfC a v:=by
 unfold mfC; rw[h1,h2,h3,h4,h5]
theorem zrB{size n:Nat}(h:Own size v n cs):zSa v=true:=by
 rcases h with⟨rfl,_⟩|⟨p,rfl|rfl,_⟩ <;> rfl
theorem zEy(y:Nat):(mkY pr ver ck b (y+1)).cks=(mkY pr ver ck b y).cks++[zeI b ck.toNat y]:=by
 simp[mkY,List.range_succ]
set_option maxHeartbeats 4000000 in
theorem zbq(hO:St H Γ)(hv:RdB Γ v b)(hb:By b)(hl:b.length≤1000000)(hver:ver < 18446744073709551616)(hck:-9223372036854775808≤ck∧ck≤9223372036854775807)(hp:pr.length≤10000)
  (hk0:¬ znb (mkF pr ver ck b)→∀ H',St H' Γ→K (.tuple [agg (mfC m0 zBa),int 131].toArray) H')
  (hk1:znb (mkF pr ver ck b)→∀ H' cv,St H' (Γ++zhb cv (hsC (mkF pr ver ck b).cks))→RdH (zhb cv (hsC (mkF pr ver ck b).cks)) cv (mkF pr ver ck b).cks→K (.tuple [agg (mfC (mkF pr ver ck b) cv),int 0].toArray) H') :
  wCall P zYd [str pr,zsb .u64 ver,int ck,v] H K:=by
 apply zps; unfold zXq
 rw[zcM]
 refine nw hO.z ?_
 clear hO
 intro p8 H hO
 replace hO:St H (Γ++[(p8,⟨mfC m0 zBa,true⟩)]):=hO
 refine zCa hv.lenSl ?_
 refine zmu hO hv.app hb (by omega) ?_
 clear hO
 intro H hO
 refine zaa (bMk _ _ _ _ _ zdn) ?_
 refine nw hO ?_
 clear hO
 intro p10 H hO
 refine sw hO 1 rfl (by rfl) (zUa zdn) (zml rfl) ?_
 clear hO
 intro H hO
 refine zCa hv.lenSl ?_
 refine zIi (by omega) (by omega) ?_
 have hcnt:mkF pr ver ck b=mkY pr ver ck b (cnt b.length ck).toNat:=rfl
 have hc0:0≤cnt b.length ck:=zlr
 generalize hQ:cnt b.length ck=Q at *
 obtain⟨N,rfl⟩:∃ N:Nat,Q=N:=⟨Q.toNat,by omega⟩
 rw[Int.toNat_natCast] at hcnt
 rw[hcnt] at hk0 hk1
 refine zaa zLf ?_
 refine zna (fun h64=>?_) (fun h64=>?_)
 ·refine zaa zJJ ?_
  refine sw hO 0 rfl (by rfl) (by rfl) (by rfl) ?_
  clear hO
  intro H hO
  refine lw hO 0 rfl (by rfl) (by omega) ?_
  refine hk0 ?_ H hO.left
  intro hr
  have:=hr.2.2.2.2.2.2.2.2.2
  rw[znl] at this
  omega
 have hN:N≤64:=by omega
 have hmul:N=0∨∃ C:Nat,ck=C∧0 < C∧(N - 1) * C≤b.length∧b.length≤N * C∧0 < N:=by
  unfold cnt at hQ
  split at hQ
  ·left; omega
  ·right
   rename_i hne
   refine⟨ck.toNat,by omega,by omega,?_⟩
   have e1:(((b.length:Nat):Int) - 1) / ck=(((b.length - 1) / ck.toNat:Nat):Int):=by
    rw[Int.natCast_ediv,show ((b.length - 1:Nat):Int)=(b.length:Int) - 1 by omega,show ((ck.toNat:Nat):Int)=ck by omega]
   rw[e1] at hQ
   have h1:=Nat.div_mul_le_self (b.length - 1) ck.toNat
   have h2:=Nat.lt_div_mul_add (a:=b.length - 1) (b:=ck.toNat) (by omega)
   have h3:N - 1=(b.length - 1) / ck.toNat:=by
    have:N=(b.length - 1) / ck.toNat+1:=Int.ofNat_inj.1 (by rw[← hQ]; rfl)
    rw[this]; rfl
   have hN1:0 < N:=by
    have:N=(b.length - 1) / ck.toNat+1:=Int.ofNat_inj.1 (by rw[← hQ]; rfl)
    rw[this]; exact Nat.succ_pos _
   have h4:N * ck.toNat=(b.length - 1) / ck.toNat * ck.toNat+ck.toNat:=by
    rw[show N=(b.length - 1) / ck.toNat+1 from Int.ofNat_inj.1 (by rw[← hQ]; rfl),Nat.succ_mul]
   rw[h3]
   generalize (b.length - 1) / ck.toNat * ck.toNat=Z at *
   generalize N * ck.toNat=Z2 at *
   refine⟨?_,?_,?_⟩ <;> omega
 have okY:∀ y,y≤N→(mkY pr ver ck b y).Ok:=fun y hy=>zpx hver hck hl hp (by omega)
 have hhd:∀ (y:Nat) (z:Value),mfC (mkY pr ver ck b y) z=mfC (mkY pr ver ck b 0) z:=fun y z=>zfI rfl rfl rfl rfl rfl
 have hd:=(okY 0 (Nat.zero_le _)).dl
 replace hO:St H ((Γ++[(p8,⟨mfC m0 zBa,true⟩),(p10,⟨mfC (mkY pr ver ck b 0) zBa,true⟩)])++zhb zBa (hsC (mkY pr ver ck b 0).cks)):=hO.z
 refine zQm (fun k l' H'=>∃ (y:Nat) (cv:Value),y≤N∧k=N - y∧l'=[int ck,v,ptr p8 0,int 0,ptr p10 0,int N,int y]∧St H' ((Γ++[(p8,⟨mfC m0 zBa,true⟩),(p10,⟨mfC (mkY pr ver ck b 0) cv,true⟩)])++zhb cv (hsC (mkY pr ver ck b y).cks))∧Own 32 cv y (hsC (mkY pr ver ck b y).cks)) _ _ ?_ N _ _ ⟨0,zBa,by omega,by omega,rfl,hO,.nil⟩
 clear hO
 rintro k l' H ⟨y,cv,hy,rfl,rfl,hO,how⟩
 unfold zSl
 try simp only[zia,zja]
 refine zaa zIa ?_
 refine zna (fun hlt=>?_) (fun hlt=>?_)
 ·have hy:y < N:=by omega
  obtain⟨C,rfl,hC,hm1,hm2,hN0⟩:=hmul.resolve_left (by omega)
  have hyC:y * C≤(N - 1) * C:=Nat.mul_le_mul_right C (by omega)
  have hto:(y+1) * C=y * C+C:=Nat.succ_mul y C
  refine zaa (zpr (by rw[← Int.natCast_mul]; omega) (by rw[← Int.natCast_mul]; omega)) ?_
  refine zCa hv.lenSl ?_
  refine zva (fun l' H'=>l'=[int C,v,ptr p8 0,int 0,ptr p10 0,int N,int y,int ((y * C:Nat):Int),int ((min (y * C+C) b.length:Nat):Int)]∧H=H') ?_ ?_
  ·refine zaa (zub (by omega) (by omega)) ?_
   refine zaa zIa ?_
   refine zna (fun h=>?_) (fun h=>?_)
   ·have h5:y * C+C≤(N - 1) * C:=by rw[← hto]; exact Nat.mul_le_mul_right C (by omega)
    refine zaa (zYa (by rw[← Int.natCast_mul]; omega) (by rw[← Int.natCast_mul]; omega)) ?_
    refine⟨?_,rfl⟩
    rw[show min (y * C+C) b.length=y * C+C by omega,Int.natCast_add,Int.natCast_mul]
   ·have h6:y=N - 1:=by omega
    have h5:N * C=y * C+C:=by rw[← hto,h6,show N - 1+1=N by omega]
    refine⟨?_,rfl⟩
    rw[show min (y * C+C) b.length=b.length by omega,Int.natCast_mul]
  rintro l' H' ⟨rfl,rfl⟩
  try simp only[zia,zja]
  refine zaa zca ?_
  refine zga hO (Γ.length+1) (zwa (zua rfl)) (zMn hd) ?_
  obtain⟨w,hw,hin⟩:=zou hv (i:=y * C) (t:=min (y * C+C) b.length) (by omega) (by omega)
  refine zaa hw ?_
  have hO1:=hO
  refine zmu hO (hin _ hv).app.app (By.drop (By.take hb)) (by rw[List.length_drop,List.length_take]; omega) ?_
  clear hO
  intro H hO
  refine⟨same_at hO1 (Γ.length+1) (zwa (zua rfl)) hO (Γ.length+1) (zwa (zua rfl)) (zIh (zrB how)),?_⟩
  clear hO1
  have hch:sha ((b.take (min (y * C+C) b.length)).drop (y * C))=zeI b (C:Int).toNat y:=by
   unfold zeI
   rw[Int.toNat_natCast]
   congr 1
   rw[List.drop_take]
   by_cases h7:y * C+C≤b.length
   ·rw[show min (y * C+C) b.length - y * C=C by omega]
   ·rw[List.take_of_length_le (by rw[List.length_drop]; omega),List.take_of_length_le (by rw[List.length_drop]; omega)]
  rw[hch]
  have hcl:(zeI b (C:Int).toNat y).length=32:=zdn
  refine zbb hO (zfK _ hcl _) ?_
  clear hO
  intro q H hO
  refine zLe hO how (by rw[zsa]; exact hcl) (by omega) (zvd _) (by omega) (by omega) ?_
  clear hO
  intro cv2 H hO how2
  rw[← zED,← zEy] at hO how2
  refine zaa zca ?_
  refine zNa hO (Γ.length+1) (zwa (zua rfl)) how2.one1 (by rw[zUa hd]; omega) (zlG hd) ?_
  clear hO
  intro H hO
  rw[List.set_append_left _ _ (by simp),Go.Ab.set_r] at hO
  refine zaa (zXp (b:=1) (by omega)) ?_
  exact⟨N - (y+1),by omega,y+1,cv2,by omega,rfl,rfl,hO,how2⟩
 ·have ey:y=N:=by omega
  subst ey
  refine zKa rfl ?_
  try simp only[zia,zja]
  have oky:=okY y (Nat.le_refl _)
  have hrd:RdH (zhb cv (hsC (mkY pr ver ck b y).cks)) cv (mkY pr ver ck b y).cks:=zcG (by rw[znl]; exact how)
  rw[← hhd y cv] at hO
  refine zta hO (Γ.length+1) (zwa (zua rfl)) (zUa oky.dl) (by omega) ?_
  refine zJi oky hrd.app' hO ?_
  clear hO
  intro H hO
  refine zaa zmc ?_
  refine zEc (fun hr=>?_) (fun hr=>?_)
  ·have hr:¬ znb (mkY pr ver ck b y):=by simpa using hr
   refine zaa zJJ ?_
   refine zra hO (Γ.length+0) (zwa (zua rfl)) (by rfl) (by rfl) (by rfl) ?_
   clear hO
   intro H hO
   rw[List.set_append_left _ _ (by simp),Go.Ab.set_r] at hO
   refine zta hO (Γ.length+0) (zwa (zua rfl)) (by rfl) (by omega) ?_
   exact hk0 hr H hO.left.left
  ·have hr:znb (mkY pr ver ck b y):=by simpa using hr
   refine zta hO (Γ.length+1) (zwa (zua rfl)) (zUa oky.dl) (by omega) ?_
   refine zra hO (Γ.length+0) (zwa (zua rfl)) (by rfl) (zUa oky.dl) (zml hrd.one) ?_
   clear hO
   intro H hO
   rw[List.set_append_left _ _ (by simp),Go.Ab.set_r] at hO
   refine zta hO (Γ.length+0) (zwa (zua rfl)) (zUa oky.dl) (by omega) ?_
   exact hk1 hr H cv (St.mid hO) hrd
end J
set_option maxRecDepth 100000
namespace J
open Go Go.Ab
variable{d d':Dv}{m:Mp}{s:List Int}{l:List (List Int)}{i:Nat}
def kpt(d:Dv)(i:Nat):List Int:=(d.cells.getD i zPb).kept
def sn(d:Dv)(i:Nat):List Int:=(d.cells.getD i zPb).seen
def wr(d:Dv)(i:Nat):Int:=(d.cells.getD i zPb).wear
def keys(l:List (Nat × List Int)):List Nat:=l.map (·.1)
theorem zOD{l:List (Nat × List Int)}{x:Nat × List Int}(h:x ∈ l):x.1 ∈ keys l:=List.mem_map.2 ⟨x,h,rfl⟩
theorem zqx{a b:List (Nat × List Int)}:keys (a++b)=keys a++keys b:=List.map_append
structure Wt (d:Dv):Prop where
 nd:(keys d.done).Nodup
 lt:∀ x ∈ d.done,x.1 < d.cells.length
 p:∀ i w,(i,w) ∈ d.done→sn d i=w
 n:∀ i,i ∉ keys d.done→sn d i=kpt d i
theorem zTe{l:List Cell}{i j:Nat}{c:Cell}(h:i < l.length):(l.set i c).getD j zPb=if i=j then c else l.getD j zPb:=by
 rw[List.getD_eq_getElem?_getD,List.getElem?_set,List.getD_eq_getElem?_getD]
 by_cases e:i=j
 ·subst e; rw[if_pos rfl,if_pos h,if_pos rfl]; rfl
 ·rw[if_neg e,if_neg e]
structure Same (d d':Dv):Prop where
 c:d'.cells=d.cells
 w:d'.done=d.done
 m:d'.most=d.most
theorem Same.kpt(h:Same d d'):kpt d' i=kpt d i:=by unfold J.kpt; rw[h.c]
theorem Same.sn(h:Same d d'):sn d' i=sn d i:=by unfold J.sn; rw[h.c]
theorem Same.wr(h:Same d d'):wr d' i=wr d i:=by unfold J.wr; rw[h.c]
theorem Same.wt(h:Same d d')(hw:Wt d):Wt d':=⟨by rw[h.w]; exact hw.nd,by rw[h.w,h.c]; exact hw.lt,by rw[h.w]; intro i w hi; rw[h.sn]; exact hw.p i w hi,by rw[h.w]; intro i hi; rw[h.sn,h.kpt]; exact hw.n i hi⟩
theorem zxu:Same d d.step:=⟨rfl,rfl,rfl⟩
theorem zsB(h:d.down=false)(hb:d.budget≠0):d.step.down=false:=by
 show (d.down || decide (d.budget=0))=false
 rw[h,decide_eq_false hb]; rfl
theorem ztB(h:d.step.down=true)(hd:d.down=false):d.budget=0:=by
 have h:(d.down || decide (d.budget=0))=true:=h
 rw[hd] at h
 simpa using h
theorem zJs(h:d.budget < 0):d.step.budget=d.budget:=if_neg (by omega)
structure Put1 (d:Dv) (i:Nat) (s:List Int) (d':Dv):Prop where
 len:d'.cells.length=d.cells.length
 m:d'.most=d.most
 w:d'.done=d.done++[(i,s)]
 k:∀ j,kpt d' j=kpt d j
 s:∀ j,sn d' j=if i=j then s else sn d j
 up:d'.down=false
 bud:d.budget < 0→d'.budget=d.budget
theorem Put1.wt(h:Put1 d i s d')(hw:Wt d)(hi:i < d.cells.length)(hn:i ∉ keys d.done):Wt d':=by
 refine⟨?_,?_,?_,?_⟩
 ·rw[h.w,zqx,List.nodup_append]
  refine⟨hw.nd,by simp[keys],fun a ha b hb=>?_⟩
  have:b=i:=by simpa [keys] using hb
  subst this
  intro e; subst e; exact hn ha
 ·rw[h.w,h.len]
  intro x hx
  rcases List.mem_append.1 hx with hx|hx
  ·exact hw.lt x hx
  ·have:x=(i,s):=by simpa using hx
   subst this; exact hi
 ·rw[h.w]
  intro j w hj
  rw[h.s]
  rcases List.mem_append.1 hj with hj|hj
  ·rw[if_neg (fun e:i=j=>hn (by rw[e]; exact zOD hj))]; exact hw.p j w hj
  ·have:(j,w)=(i,s):=by simpa using hj
   cases this; rw[if_pos rfl]
 ·rw[h.w]
  intro j hj
  rw[zqx,List.mem_append,not_or] at hj
  rw[h.s,h.k,if_neg (fun e=>hj.2 (by subst e; simp[keys]))]; exact hw.n j hj.1
theorem zuB(hi:i < d.cells.length)(hu:d.down=false)(s:List Int){d0:Dv}(h0:∀ j,kpt d j=kpt d0 j)(h1:∀ j,sn d j=sn d0 j)(h2:d.done=d0.done)(h3:d.most=d0.most)(h4:d.cells.length=d0.cells.length)(h5:d0.budget < 0→d.budget=d0.budget):Put1 d0 i s (d.put (i:Int) s):=by
 have hd:d.cell (i:Int)=d.cells.getD i zPb:=by unfold Dv.cell; rw[Int.toNat_natCast]
 refine⟨?_,h3,?_,fun j=>?_,fun j=>?_,hu,h5⟩
 ·show (d.cells.set _ _).length=_; rw[List.length_set,h4]
 ·show d.done++[((i:Int).toNat,s)]=_; rw[h2,Int.toNat_natCast]
 ·rw[← h0]; unfold kpt
  show ((d.cells.set (i:Int).toNat _).getD j zPb).kept=_
  rw[Int.toNat_natCast,zTe hi]
  by_cases e:i=j
  ·subst e; rw[if_pos rfl,hd]
  ·rw[if_neg e]
 ·rw[← h1]; unfold sn
  show ((d.cells.set (i:Int).toNat _).getD j zPb).seen=_
  rw[Int.toNat_natCast,zTe hi]
  by_cases e:i=j
  ·subst e; rw[if_pos rfl,if_pos rfl]
  ·rw[if_neg e,if_neg e]
theorem zgn(hi:i < d.cells.length):d.has (i:Int):=⟨by omega,by omega⟩
structure Out (d d':Dv):Prop where
 s:Same d d'
 dn:d'.down=true
 b:0≤d.budget
theorem zdw(hi:i < d.cells.length)(hu:d.down=false)(hw:wr d i < d.most) :
  ((d.erase i).2=62∧Out d (d.erase i).1)∨((d.erase i).2=0∧Put1 d i blank (d.erase i).1∧∀ j,wr (d.erase i).1 j=if i=j then wr d i+1 else wr d j):=by
 have hc:d.cell (i:Int)=d.cells.getD i zPb:=by unfold Dv.cell; rw[Int.toNat_natCast]
 unfold Dv.erase
 rw[if_neg (fun h=>h (zgn hi)),if_neg (by rw[hu]; simp),if_neg (by rw[hc]; show ¬ d.most≤wr d i; omega)]
 by_cases h:d.step.down=true
 ·rw[if_pos h]
  have hb:=ztB h hu
  exact .inl ⟨rfl,zxu,h,by omega⟩
 ·rw[if_neg h]
  have h:=Bool.eq_false_iff.2 h
  refine .inr ⟨rfl,?_,fun j=>?_⟩
  ·have hl:(d.step.upd (i:Int) { d.cell i with wear:=(d.cell i).wear+1 }).cells.length=d.cells.length:=by show (d.cells.set _ _).length=_; rw[List.length_set]
   refine zuB (d:=d.step.upd (i:Int) { d.cell i with wear:=(d.cell i).wear+1 }) (d0:=d) (by rw[hl]; exact hi) h blank (fun j=>?_) (fun j=>?_) rfl rfl hl (fun hb=>zJs hb)
   ·unfold kpt
    show ((d.cells.set (i:Int).toNat _).getD j zPb).kept=_
    rw[Int.toNat_natCast,zTe hi]
    by_cases e:i=j
    ·subst e; rw[if_pos rfl,hc]
    ·rw[if_neg e]
   ·unfold sn
    show ((d.cells.set (i:Int).toNat _).getD j zPb).seen=_
    rw[Int.toNat_natCast,zTe hi]
    by_cases e:i=j
    ·subst e; rw[if_pos rfl,hc]
    ·rw[if_neg e]
  ·unfold wr
   show (((d.cells.set (i:Int).toNat _).set (i:Int).toNat _).getD j zPb).wear=_
   rw[Int.toNat_natCast,zTe (by rw[List.length_set]; exact hi)]
   by_cases e:i=j
   ·subst e
    rw[if_pos rfl,if_pos rfl]
    show (((d.cells.set (i:Int).toNat _).getD (i:Int).toNat zPb)).wear=_
    rw[Int.toNat_natCast,zTe hi,if_pos rfl,hc]
   ·rw[if_neg e,if_neg e,zTe hi,if_neg e]
theorem zni(hi:i < d.cells.length)(hu:d.down=false)(hb:sn d i=blank) :
  ((d.program i s).2=62∧Out d (d.program i s).1)∨((d.program i s).2=0∧Put1 d i s (d.program i s).1∧∀ j,wr (d.program i s).1 j=wr d j):=by
 have hc:d.cell (i:Int)=d.cells.getD i zPb:=by unfold Dv.cell; rw[Int.toNat_natCast]
 unfold Dv.program
 rw[if_neg (fun h=>h (zgn hi)),if_neg (by rw[hu]; simp),if_neg (by rw[hc]; show ¬ sn d i≠blank; rw[hb]; simp)]
 by_cases h:d.step.down=true
 ·rw[if_pos h]
  have hb:=ztB h hu
  exact .inl ⟨rfl,zxu,h,by omega⟩
 ·rw[if_neg h]
  have h:=Bool.eq_false_iff.2 h
  refine .inr ⟨rfl,?_,fun j=>?_⟩
  ·exact zuB (d:=d.step) (d0:=d) hi h s (fun j=>rfl) (fun j=>rfl) rfl rfl rfl (fun hb=>zJs hb)
  ·unfold wr
   show ((d.cells.set (i:Int).toNat _).getD j zPb).wear=_
   rw[Int.toNat_natCast,zTe hi]
   by_cases e:i=j
   ·subst e
    rw[if_pos rfl]
    show ((d.step.cell (i:Int))).wear=_
    rw[show d.step.cell (i:Int)=d.cells.getD i zPb from hc]
   ·rw[if_neg e]
structure Kept (d d':Dv):Prop where
 len:d'.cells.length=d.cells.length
 m:d'.most=d.most
 w:d'.done=[]
 k:∀ j,kpt d' j=sn d j
 s:∀ j,sn d' j=sn d j
 wr:∀ j,wr d' j=wr d j
 up:d'.down=false
 bud:d.budget < 0→d'.budget=d.budget
theorem Kept.wt(h:Kept d d'):Wt d':=⟨by rw[h.w]; simp[keys],(by rw[h.w]; intro x hx; cases hx),(by rw[h.w]; intro i w hi; cases hi),fun i _=>by rw[h.s,h.k]⟩
def ziK(old new got:List Int):Prop:=∃ n,n≤64∧got=new.take n++old.drop n
structure Anew (d d':Dv):Prop where
 len:d'.cells.length=d.cells.length
 m:d'.most=d.most
 w:d'.done=[]
 s:∀ j,sn d' j=kpt d' j
 n:∀ j,j ∉ keys d.done→kpt d' j=kpt d j
 t:∀ j w,(j,w) ∈ d.done→ziK (kpt d j) w (kpt d' j)
 wr:∀ j,wr d' j=wr d j
 up:d'.down=false
 bud:d'.budget=-1
theorem Anew.wt(h:Anew d d'):Wt d':=⟨by rw[h.w]; simp[keys],(by rw[h.w]; intro x hx; cases hx),(by rw[h.w]; intro i w hi; cases hi),fun i _=>h.s i⟩
end J
set_option maxRecDepth 100000
namespace J
open Go Go.Ab
variable{d d' d0:Dv}{m m':Mp}{s:List Int}{l:List (List Int)}{i j:Nat}{A B:Nat}{b:Int}{N:Nat}
def off(A:Nat)(b:Int):Nat:=if b=0 then 0 else A
def siz(A B:Nat)(b:Int):Nat:=if b=0 then A else B
structure Two (m:Mp) (A B:Nat):Prop where
 sp:∃ r,m.spans=(0,A)::(A,B)::r
 fit:A+B≤m.d.cells.length
abbrev Bit(b:Int):Prop:=b=0∨b=1
theorem zKs(h:Two m A B)(hb:Bit b):m.has b∧m.span b=(off A b,siz A B b):=by
 obtain⟨r,e⟩:=h.sp
 unfold Mp.has Mp.span
 rw[e]
 rcases hb with rfl|rfl
 ·exact⟨⟨by omega,by simp; omega⟩,rfl⟩
 ·exact⟨⟨by omega,by simp; omega⟩,rfl⟩
theorem zLs(h:Two m A B)(hb:Bit b):m.size b=siz A B b:=by
 unfold Mp.size
 rw[if_pos (zKs h hb).1,(zKs h hb).2]
theorem zhn(h:Two m A B)(hb:Bit b){y:Nat}(hy:y < siz A B b):off A b+y < m.d.cells.length:=by
 have:=h.fit
 rcases hb with rfl|rfl
 ·have:siz A B 0=A:=rfl
  have:off A 0=0:=rfl
  omega
 ·have:siz A B 1=B:=rfl
  have:off A 1=A:=rfl
  omega
theorem zrm(h:Two m A B)(hb:Bit b){y:Nat}(hy:y < siz A B b):m.place b y=(((off A b+y:Nat):Int),0):=by
 unfold Mp.place
 rw[if_neg (fun h2=>h2 (zKs h hb).1),(zKs h hb).2,if_neg (by show ¬ ((y:Int) < 0∨(siz A B b:Int)≤y); omega)]
 show ((((off A b:Nat):Int)+(y:Int)),(0:Int))=_
 rw[show ((off A b:Nat):Int)+(y:Int)=((off A b+y:Nat):Int) by omega]
theorem zmG(hj:j < d.cells.length):(d.read (j:Int)).1=sn d j:=by
 unfold Dv.read
 rw[if_pos (zgn hj)]
 show (d.cell (j:Int)).seen=_
 unfold Dv.cell sn
 rw[Int.toNat_natCast]
theorem zMs(h:Two m A B)(hb:Bit b){y:Nat}(hy:y < siz A B b):(m.read b y).1=sn m.d (off A b+y):=by
 unfold Mp.read
 rw[zrm h hb hy,if_neg (by simp)]
 exact zmG (zhn h hb hy)
def bk(d:Dv)(A B:Nat)(b:Int):List (List Int):=(List.range (siz A B b)).map fun y=>kpt d (off A b+y)
theorem zNn(h:Two m A B)(h1:m'.spans=m.spans)(h2:m'.d.cells.length=m.d.cells.length):Two m' A B:=⟨by rw[h1]; exact h.sp,by rw[h2]; exact h.fit⟩
def zGG(b:Int)(l:List Op):Prop:=∀ o ∈ l,o.part=b
theorem zyu{o:Op}{e:Int}(ho:o.part=b)(h:zGG b m.ops):zGG b (m.note o e).ops:=by
 unfold Mp.note
 split
 ·intro x hx
  rcases List.mem_append.1 hx with hx|hx
  ·exact h x hx
  ·have:x={ o with who:=m.who }:=by simpa using hx
   subst this; exact ho
 ·exact h
theorem zvB(h:Two m A B)(hb:Bit b){y:Nat}(hy:y < siz A B b):(m.erase b y).1.d=(m.d.erase ((off A b+y:Nat):Int)).1∧(m.erase b y).2=(m.d.erase ((off A b+y:Nat):Int)).2∧(m.erase b y).1.spans=m.spans∧(zGG b m.ops→zGG b (m.erase b y).1.ops):=by
 unfold Mp.erase
 rw[zrm h hb hy,if_neg (by simp)]
 exact⟨Mp.note_d,rfl,Mp.note_s,fun h=>zyu rfl h⟩
theorem zol(h:Two m A B)(hb:Bit b){y:Nat}(hy:y < siz A B b):(m.program b y s).1.d=(m.d.program ((off A b+y:Nat):Int) s).1∧(m.program b y s).2=(m.d.program ((off A b+y:Nat):Int) s).2∧(m.program b y s).1.spans=m.spans∧(zGG b m.ops→zGG b (m.program b y s).1.ops):=by
 unfold Mp.program
 rw[zrm h hb hy,if_neg (by simp)]
 exact⟨Mp.note_d,rfl,Mp.note_s,fun h=>zyu rfl h⟩
structure Wip (d0 d:Dv) (lo hi:Nat):Prop where
 len:d.cells.length=d0.cells.length
 m:d.most=d0.most
 wt:Wt d
 k:∀ j,kpt d j=kpt d0 j
 ks:∀ x ∈ d.done,lo≤x.1∧x.1 < hi∧x.2=blank
 w1:∀ j,wr d j≤wr d0 j+1
 w2:∀ j,j ∉ keys d.done→wr d j≤wr d0 j
 bud:d0.budget < 0→d.budget=d0.budget
theorem Wip.out{lo hi:Nat}(h:Wip d0 d lo hi)(ho:Out d d'):Wip d0 d' lo hi:=by
 refine⟨by rw[ho.s.c,h.len],by rw[ho.s.m,h.m],ho.s.wt h.wt,fun j=>by rw[ho.s.kpt,h.k],by rw[ho.s.w]; exact h.ks,fun j=>by rw[ho.s.wr]; exact h.w1 j,fun j hj=>by rw[ho.s.wr]; exact h.w2 j (by rw[← ho.s.w]; exact hj),fun hb=>?_⟩
 have:=ho.b
 have:=h.bud hb
 omega
end J
set_option maxRecDepth 100000
namespace J
open Go Go.Ab
variable{d d':Dv}{m m':Mp}{x:List Int}{xs:List (List Int)}{n k y e:Nat}{w w' w1 w2:Wr}{sl:Int}{f g:Nat→List Int}
inductive Ch:Nat→Wr→Wr→Prop
 | nil (w:Wr):Ch 0 w w
 | step {k:Nat} {w w1 w2:Wr}:w.step=(true,w1)→Ch k w1 w2→Ch (k+1) w w2
theorem Ch.one(h:w.step=(true,w1)):Ch 1 w w1:=.step h (.nil _)
theorem Ch.trans{j:Nat}(h:Ch k w w1)(h':Ch j w1 w2):Ch (k+j) w w2:=by
 induction h with
 | nil=>rw[Nat.zero_add]; exact h'
 | step h1 _ ih=>rw[Nat.succ_add]; exact .step h1 (ih h')
structure Rd (w:Wr) (n:Nat) (sl:Int) (f g:Nat→List Int):Prop where
 hold:w.s.holds w.token
 s1:w.s.slot=sl
 s2:w.slot=sl
 p0:w.s.p0=0
 p1:w.s.p1=1
 bit:Bit sl
 two:Two w.m n n
 up:w.m.d.down=false
 bud:w.m.d.budget=-1
 most:w.m.d.most=100
 f:∀ i,i < n→sn w.m.d (off n sl+i)=f i
 g:∀ i,i < n→sn w.m.d (off n (1 - sl)+i)=g i
theorem Rd.part(h:Rd w n sl f g):w.s.part sl=sl:=by
 unfold Ls.part
 rcases h.bit with e|e <;> subst e
 ·rw[if_neg (by omega),if_pos rfl,h.p0]
 ·rw[if_neg (by omega),if_neg (by omega),h.p1]
theorem zPg{b:Int}:siz n n b=n:=by unfold siz; split <;> rfl
theorem Rd.size(h:Rd w n sl f g):w.size=n:=by
 unfold Wr.size
 rw[h.s2,h.part,zLs h.two h.bit,zPg]
theorem zPD{j:Nat}(hj:j < d.cells.length):(d.read (j:Int)).2=0:=by
 unfold Dv.read
 rw[if_pos (zgn hj)]
theorem zwB{A B:Nat}{b:Int}(h:Two m A B)(hb:Bit b)(hy:y < siz A B b):(m.read b y).2=0:=by
 unfold Mp.read
 rw[zrm h hb hy,if_neg (by simp)]
 exact zPD (zhn h hb hy)
theorem Rd.read(h:Rd w n sl f g)(hy:y < n):w.s.read w.m w.slot y=(f y,0):=by
 unfold Ls.read
 have hs:siz n n sl=n:=zPg
 have hn:¬ (sl:Int) < 0:=by rcases h.bit with e|e <;> omega
 rw[h.s2,h.part,if_neg hn]
 refine Prod.ext ?_ ?_
 ·show (w.m.read sl y).1=_
  rw[zMs h.two h.bit (by rw[hs]; exact hy)]
  exact h.f y hy
 ·exact zwB h.two h.bit (by rw[hs]; exact hy)
theorem Rd.dirty(h:Rd w n sl f g)(hy:y < n):dirty w y↔f y≠blank:=by
 unfold J.dirty
 rw[h.read hy]
 exact⟨fun h=>h.2,fun h=>⟨rfl,h⟩⟩
theorem zcq:∀ (k y z:Nat),w.look k y=some z→y≤z∧z < y+k∧dirty w z
 | 0,y,z,h=>by cases h
 | k+1,y,z,h=>by
  have h:(if dirty w y then some y else w.look k (y+1))=some z:=h
  split at h
  ·rename_i hd
   injection h with h
   subst h
   exact⟨Nat.le_refl _,by omega,hd⟩
  ·obtain⟨a,b,c⟩:=zcq k (y+1) z h
   exact⟨by omega,by omega,c⟩
theorem zdq:∀ (k y:Nat),w.look k y=none→∀ z,y≤z→z < y+k→¬ dirty w z
 | 0,y,h,z,h1,h2=>by omega
 | k+1,y,h,z,h1,h2=>by
  have h:(if dirty w y then some y else w.look k (y+1))=none:=h
  split at h
  ·cases h
  ·rename_i hd
   by_cases e:z=y
   ·subst e; exact hd
   ·exact zdq k (y+1) h z (by omega) (by omega)
theorem zAE{i j:Nat}(hb:Bit sl)(hi:i < n)(hj:j < n):off n sl+i≠off n (1 - sl)+j:=by
 rcases hb with e|e <;> subst e
 ·have h1:off n 0=0:=rfl
  have h2:off n (1 - 0)=n:=rfl
  omega
 ·have h1:off n 1=n:=rfl
  have h2:off n (1 - 1)=0:=rfl
  omega
def zQs(f:Nat→List Int)(y:Nat)(x:List Int):Nat→List Int:=fun i=>if i=y then x else f i
structure Only (w w':Wr):Prop where
 s:w'.s=w.s
 token:w'.token=w.token
 slot:w'.slot=w.slot
 who:w'.m.who=w.m.who
theorem Rd.put1(h:Rd w n sl f g)(hy:y < n)(ho:Only w w')(h2:Two w'.m n n)(hp:Put1 w.m.d (off n sl+y) x w'.m.d):Rd w' n sl (zQs f y x) g:=by
 refine⟨by rw[ho.s,ho.token]; exact h.hold,by rw[ho.s]; exact h.s1,by rw[ho.slot]; exact h.s2,by rw[ho.s]; exact h.p0,by rw[ho.s]; exact h.p1,h.bit,h2,hp.up,by rw[hp.bud (by rw[h.bud]; decide)]; exact h.bud,by rw[hp.m]; exact h.most,?_,?_⟩
 ·intro i hi
  rw[hp.s]
  unfold zQs
  by_cases e:i=y
  ·subst e; rw[if_pos rfl,if_pos rfl]
  ·rw[if_neg (by omega),if_neg e]; exact h.f i hi
 ·intro i hi
  rw[hp.s,if_neg (zAE h.bit hy hi)]
  exact h.g i hi
theorem zzu{s:Ls}{token:Nat}{F:Mp→Mp × Int}(hh:s.holds token):s.as m token F=({ (F { m with who:=s.job }).1 with who:=m.who },(F { m with who:=s.job }).2):=by
 unfold Ls.as; rw[if_pos hh]
theorem Two.as{a:Int}(h:Two m n n):Two { m with who:=a } n n:=⟨h.sp,h.fit⟩
theorem Rd.erases(h:Rd w n sl f g)(hy:y < n)(hw:wr w.m.d (off n sl+y) < 100):Rd (w.erases y) n sl (zQs f y blank) g∧(w.erases y).er=0∧(∀ j,wr (w.erases y).m.d j=if off n sl+y=j then wr w.m.d (off n sl+y)+1 else wr w.m.d j):=by
 have hs:siz n n sl=n:=zPg
 have e1:w.erases y=w.put (w.s.as w.m w.token (·.erase sl y)):=by
  unfold Wr.erases; rw[h.s1,h.part]
 rw[zzu h.hold] at e1
 have h2:Two { w.m with who:=w.s.job } n n:=h.two.as
 obtain⟨t1,t2,t3,_⟩:=zvB h2 h.bit (y:=y) (by rw[hs]; exact hy)
 rcases zdw (d:=w.m.d) (i:=off n sl+y) (zhn h.two h.bit (by rw[hs]; exact hy)) h.up (by rw[h.most]; exact hw) with⟨_,ho⟩|⟨c1,c2,c3⟩
 ·have:=ho.b; rw[h.bud] at this; omega
 ·rw[e1]
  refine⟨?_,t2.trans c1,?_⟩
  ·refine h.put1 hy ⟨rfl,rfl,rfl,rfl⟩ ?_ ?_
   ·exact zNn h.two t3 (by show (Mp.erase { w.m with who:=w.s.job } sl y).1.d.cells.length=_; rw[t1]; exact c2.len)
   ·show Put1 w.m.d _ blank (Mp.erase { w.m with who:=w.s.job } sl y).1.d
    rw[t1]; exact c2
  ·intro j
   show wr (Mp.erase { w.m with who:=w.s.job } sl y).1.d j=_
   rw[t1]; exact c3 j
theorem Rd.programs(h:Rd w n sl f g)(hy:w.wr < n)(hb:f w.wr=blank)(x:List Int):Rd (w.fills x) n sl (zQs f w.wr x) g∧(w.fills x).er=0∧(∀ j,wr (w.fills x).m.d j=wr w.m.d j):=by
 have hs:siz n n sl=n:=zPg
 have e1:w.fills x=w.put (w.s.as w.m w.token (·.program sl w.wr x)):=by
  unfold Wr.fills; rw[h.s1,h.part]
 rw[zzu h.hold] at e1
 have h2:Two { w.m with who:=w.s.job } n n:=h.two.as
 obtain⟨t1,t2,t3,_⟩:=zol (s:=x) h2 h.bit (y:=w.wr) (by rw[hs]; exact hy)
 rcases zni (d:=w.m.d) (i:=off n sl+w.wr) (s:=x) (zhn h.two h.bit (by rw[hs]; exact hy)) h.up (by rw[h.f _ hy]; exact hb) with⟨_,ho⟩|⟨c1,c2,c3⟩
 ·have:=ho.b; rw[h.bud] at this; omega
 ·rw[e1]
  refine⟨?_,t2.trans c1,?_⟩
  ·refine h.put1 hy ⟨rfl,rfl,rfl,rfl⟩ ?_ ?_
   ·exact zNn h.two t3 (by show (Mp.program { w.m with who:=w.s.job } sl w.wr x).1.d.cells.length=_; rw[t1]; exact c2.len)
   ·show Put1 w.m.d _ x (Mp.program { w.m with who:=w.s.job } sl w.wr x).1.d
    rw[t1]; exact c2
  ·intro j
   show wr (Mp.program { w.m with who:=w.s.job } sl w.wr x).1.d j=_
   rw[t1]; exact c3 j
def zdc(f:Nat→List Int)(n:Nat):Nat:=(List.range n).countP fun y=>decide (f y≠blank)
theorem zoi:zdc f (n+1)=zdc f n+if f n≠blank then 1 else 0:=by
 unfold zdc
 rw[List.range_succ,List.countP_append,List.countP_singleton]
 by_cases h:f n=blank <;> simp[h]
theorem zeq:∀ (n:Nat),n≤y→zdc (zQs f y x) n=zdc f n
 | 0,_=>rfl
 | n+1,h=>by
  have h1:zQs f y x n=f n:=if_neg (by omega)
  rw[zoi,zoi,zeq n (by omega),h1]
theorem zin:∀ (n:Nat),y < n→zdc (zQs f y x) n+(if f y≠blank then 1 else 0)=zdc f n+(if x≠blank then 1 else 0)
 | 0,h=>by omega
 | n+1,h=>by
  rw[zoi,zoi]
  by_cases e:y=n
  ·subst e
   rw[zeq y (Nat.le_refl _)]
   have:zQs f y x y=x:=if_pos rfl
   rw[this]; omega
  ·have:=zin n (show y < n by omega)
   have h1:zQs f y x n=f n:=if_neg (by omega)
   rw[h1]; omega
theorem zpl(h:∀ i,i < n→f i=blank):zdc f n=0:=by
 unfold zdc
 rw[List.countP_eq_zero]
 intro y hy
 simp[h y (List.mem_range.1 hy)]
theorem zfq:zdc f n≤n:=by
 unfold zdc
 have:=List.countP_le_length (p:=fun y=>decide (f y≠blank)) (l:=List.range n)
 rw[List.length_range] at this
 exact this
theorem zAu(he:w.er=0)(hs:w.sg=1):w.step=(true,w.wipe):=by
 unfold Wr.step
 rw[if_neg (by rw[he,hs]; decide),if_pos hs]
theorem zxB(he:w.er=0)(hs:w.sg=2)(hx:w.ss=x::xs):w.step=(true,w.fill x xs):=by
 unfold Wr.step
 rw[if_neg (by rw[he,hs]; decide),if_neg (by rw[hs]; decide),if_neg (by rw[hs]; decide),hx]
theorem Rd.congr(h:Rd w n sl f g){f':Nat→List Int}(hf:∀ i,i < n→f i=f' i):Rd w n sl f' g:=⟨h.hold,h.s1,h.s2,h.p0,h.p1,h.bit,h.two,h.up,h.bud,h.most,fun i hi=>(h.f i hi).trans (hf i hi),h.g⟩
theorem zyB:∀ (D:Nat) {w:Wr} {f:Nat→List Int} {e:Nat},zdc f n=D→Rd w n sl f g→w.er=0→w.sg=1→(∀ j,wr w.m.d j≤e)→e+D≤99 →
  ∃ w',Ch (D+1) w w'∧Rd w' n sl (fun _=>blank) g∧w'.er=0∧w'.sg=2∧w'.q=w.q∧w'.sd=w.sd∧w'.nx=w.nx∧w'.ss=w.ss∧w'.wr=w.wr∧Only w w':=by
 intro D
 induction D with
 | zero=>
  intro w f e hD h he hs hw hn
  have hno:w.look w.size 0=none:=by
   cases hl:w.look w.size 0 with
   | none=>rfl
   | some z=>
    obtain⟨_,h2,h3⟩:=zcq _ _ _ hl
    rw[h.size] at h2
    have hz:=(h.dirty (y:=z) (by omega)).1 h3
    exfalso
    have:0 < zdc f n:=by
     unfold zdc
     rw[List.countP_pos_iff]
     exact⟨z,List.mem_range.2 (by omega),by simp[hz]⟩
    omega
  refine⟨{ w with sg:=2 },.one ?_,?_,he,rfl,rfl,rfl,rfl,rfl,rfl,⟨rfl,rfl,rfl,rfl⟩⟩
  ·rw[zAu he hs]
   unfold Wr.wipe
   rw[hno]
  ·have hb:∀ i,i < n→f i=blank:=by
    intro i hi
    have:=zdq _ _ hno i (Nat.zero_le _) (by rw[h.size]; omega)
    rw[h.dirty hi] at this
    exact Classical.not_not.1 this
   exact⟨h.hold,h.s1,h.s2,h.p0,h.p1,h.bit,h.two,h.up,h.bud,h.most,fun i hi=>(h.f i hi).trans (hb i hi),h.g⟩
 | succ D ih=>
  intro w f e hD h he hs hw hn
  cases hl:w.look w.size 0 with
  | none=>
   have hb:∀ i,i < n→f i=blank:=by
    intro i hi
    have:=zdq _ _ hl i (Nat.zero_le _) (by rw[h.size]; omega)
    rw[h.dirty hi] at this
    exact Classical.not_not.1 this
   have:=zpl hb
   omega
  | some z=>
   obtain⟨_,h2,h3⟩:=zcq _ _ _ hl
   rw[h.size] at h2
   have hzn:z < n:=by omega
   have hz:=(h.dirty hzn).1 h3
   obtain⟨r1,r2,r3⟩:=h.erases hzn (by have:=hw (off n sl+z); omega)
   have hd:=zin (f:=f) (x:=blank) n hzn
   rw[if_pos hz,if_neg (by simp)] at hd
   obtain⟨w',c1,c2,c3,c4,c5,c6,c7,c8,c9,c10⟩:=ih (w:=w.erases z) (e:=e+1) (by omega) r1 r2 hs (fun j=>by
    rw[r3]
    split
    ·have:=hw (off n sl+z); omega
    ·have:=hw j; omega) (by omega)
   refine⟨w',.step ?_ c1,c2,c3,c4,c5,c6,c7,c8,c9,⟨c10.s,c10.token,c10.slot,?_⟩⟩
   ·rw[zAu he hs]
    unfold Wr.wipe
    rw[hl]
   ·rw[c10.who]
    show (w.s.as w.m w.token _).1.who=_
    rw[zzu h.hold]
def znG(f:Nat→List Int)(a:Nat)(xs:List (List Int)):Nat→List Int:=fun i=>if a≤i∧i < a+xs.length then xs.getD (i - a) [] else f i
theorem zQD:∀ (xs:List (List Int)) {w:Wr} {f:Nat→List Int},Rd w n sl f g→w.er=0→w.sg=2→w.ss=xs→w.wr+xs.length≤n→(∀ i,w.wr≤i→i < w.wr+xs.length→f i=blank) →
  ∃ w',Ch xs.length w w'∧Rd w' n sl (znG f w.wr xs) g∧w'.er=0∧w'.sg=2∧w'.q=w.q∧w'.sd=w.sd∧w'.nx=w.nx∧w'.ss=[]∧w'.wr=w.wr+xs.length∧Only w w':=by
 intro xs
 induction xs with
 | nil=>
  intro w f h he hs hss hn hb
  refine⟨w,.nil _,h.congr fun i _=>?_,he,hs,rfl,rfl,rfl,hss,rfl,⟨rfl,rfl,rfl,rfl⟩⟩
  unfold znG
  rw[if_neg (by rw[List.length_nil]; omega)]
 | cons x xs ih=>
  intro w f h he hs hss hn hb
  rw[List.length_cons] at hn hb
  obtain⟨r1,r2,r3⟩:=h.programs (by omega) (hb _ (Nat.le_refl _) (by omega)) x
  have hf:w.fill x xs={ w.fills x with ss:=xs,wr:=w.wr+1 }:=by unfold Wr.fill; rw[if_pos r2]
  have r1':Rd (w.fill x xs) n sl (zQs f w.wr x) g:=by
   rw[hf]
   exact⟨r1.hold,r1.s1,r1.s2,r1.p0,r1.p1,r1.bit,r1.two,r1.up,r1.bud,r1.most,r1.f,r1.g⟩
  obtain⟨w',c1,c2,c3,c4,c5,c6,c7,c8,c9,c10⟩:=ih (w:=w.fill x xs) r1' (by rw[hf]; exact r2) (by rw[hf]; exact hs) (by rw[hf]) (by rw[hf]; show w.wr+1+_≤n; omega) (fun i h1 h2=>by
   rw[hf] at h1 h2
   have h1:w.wr+1≤i:=h1
   have h2:i < w.wr+1+xs.length:=h2
   show zQs f w.wr x i=_
   unfold zQs
   rw[if_neg (by omega)]
   exact hb i (by omega) (by omega))
  rw[hf] at c2 c5 c6 c7 c9 c10
  refine⟨w',.step (zxB he hs hss) c1,c2.congr fun i hi=>?_,c3,c4,c5,c6,c7,c8,by rw[c9,List.length_cons]; show w.wr+1+_=_; omega,⟨c10.s,c10.token,c10.slot,?_⟩⟩
  ·show znG (zQs f w.wr x) (w.wr+1) xs i=znG f w.wr (x::xs) i
   unfold znG zQs
   rw[List.length_cons]
   by_cases e:i=w.wr
   ·subst e
    rw[if_neg (by omega),if_pos rfl,if_pos (by omega),Nat.sub_self]; rfl
   ·by_cases e2:w.wr+1≤i∧i < w.wr+1+xs.length
    ·rw[if_pos e2,if_pos (by omega),show i - w.wr=(i - (w.wr+1))+1 by omega]; rfl
    ·rw[if_neg e2,if_neg e,if_neg (by omega)]
  ·rw[c10.who]
   show (w.s.as w.m w.token _).1.who=_
   rw[zzu h.hold]
end J
set_option maxRecDepth 100000
namespace J
open Go Go.Ab
variable{d d':Dv}{m m':Mp}{x b:List Int}{xs:List (List Int)}{n k y e C:Nat}{w w' w1 w2:Wr}{sl:Int}{f g:Nat→List Int}{nt:Sn}{q:List Sn}{sd:Mf}
theorem zJj(he:w.er=0)(hs:w.sg=0∨w.sg=2)(hx:w.ss=[])(hq:w.q=nt::q):w.step=(true,({ w with q:=q }:Wr).heed nt):=by
 unfold Wr.step
 rw[if_neg (by rw[he]; rintro (h|h); exact h rfl; omega),if_neg (by omega),if_neg (by omega)]
 split
 ·rename_i h; rw[hx] at h; cases h
 ·rw[hq]
theorem zzB(he:w.er=0)(hs:w.sg=0∨w.sg=2)(hx:w.ss=[])(hq:w.q=[]):w.step=(false,w):=by
 unfold Wr.step
 rw[if_neg (by rw[he]; rintro (h|h); exact h rfl; omega),if_neg (by omega),if_neg (by omega)]
 split
 ·rename_i h; rw[hx] at h; cases h
 ·rw[hq]
theorem zsm(hs:w.sg=4):w.step=(false,w):=by
 unfold Wr.step; rw[if_pos (.inr hs)]
theorem zBu(he:w.er≠0):w.step=(false,w):=by
 unfold Wr.step; rw[if_pos (.inl he)]
theorem zFy(he:w.er=0)(hs:w.sg=3):w.step=(true,w.close):=by
 unfold Wr.step
 rw[if_neg (by rw[he,hs]; decide),if_neg (by rw[hs]; decide),if_pos hs]
theorem zRD{cs:List Cell}{z:Nat × List Int}{j:Nat}:((zan cs z).getD j zPb).seen=(cs.getD j zPb).seen:=by
 unfold zan
 by_cases h:z.1 < cs.length
 ·rw[zTe h]
  split
  ·rename_i e; subst e; rfl
  ·rfl
 ·rw[List.set_eq_of_length_le (by omega)]
theorem ztr:∀ (l:List (Nat × List Int)) (cs:List Cell) (j:Nat),((zTa cs l).getD j zPb).seen=(cs.getD j zPb).seen
 | [],_,_=>rfl
 | z::l,cs,j=>(ztr l (zan cs z) j).trans zRD
theorem zAB(hu:d.down=false)(hb:d.budget=-1):d.sync=({ d.step with cells:=zTa d.cells d.done,done:=[] },0):=by
 unfold Dv.sync
 rw[if_neg (by rw[hu]; decide),if_neg (by rw[zsB hu (by rw[hb]; decide)]; decide)]
structure Synd (d d':Dv):Prop where
 sn:∀ j,sn d' j=sn d j
 done:d'.done=[]
 len:d'.cells.length=d.cells.length
 up:d'.down=false
 bud:d'.budget=-1
 most:d'.most=d.most
theorem zrx(hu:d.down=false)(hb:d.budget=-1):d.sync.2=0∧Synd d d.sync.1:=by
 rw[zAB hu hb]
 exact⟨rfl,fun j=>ztr _ _ _,rfl,zVd _ _,zsB hu (by rw[hb]; decide),(zJs (by omega)).trans hb,rfl⟩
theorem Rd.syncs(h:Rd w n sl f g):Rd w.syncs n sl f g∧w.syncs.er=0∧w.syncs.m.d.done=[]:=by
 have e1:w.syncs=w.put (w.s.as w.m w.token (·.sync)):=rfl
 rw[zzu h.hold] at e1
 obtain⟨c1,c2⟩:=zrx h.up h.bud
 rw[e1]
 refine⟨⟨h.hold,h.s1,h.s2,h.p0,h.p1,h.bit,zNn h.two rfl c2.len,c2.up,c2.bud,c2.most.trans h.most,fun i hi=>(c2.sn _).trans (h.f i hi),fun i hi=>(c2.sn _).trans (h.g i hi)⟩,c1,c2.done⟩
theorem zWj{α:Type}:∀ (l:List Nat) {f g:Nat→List α},(∀ i ∈ l,f i=g i)→l.flatMap f=l.flatMap g
 | [],_,_,_=>rfl
 | a::l,f,g,h=>by
  rw[List.flatMap_cons,List.flatMap_cons,h a List.mem_cons_self,zWj l fun i hi=>h i (List.mem_cons_of_mem _ hi)]
theorem Rd.all(h:Rd w n sl f g):w.m.all sl=(List.range n).flatMap f:=by
 have hs:siz n n sl=n:=zPg
 unfold Mp.all Mp.upto
 rw[zLs h.two h.bit,hs]
 refine zWj _ fun i hi=>?_
 rw[zMs h.two h.bit (by rw[hs]; exact List.mem_range.1 hi)]
 exact h.f i (List.mem_range.1 hi)
theorem zew(h:Bit sl):Bit (1 - sl):=by rcases h with e|e <;> subst e; exact .inr rfl; exact .inl rfl
theorem Rd.other(h:Rd w n sl f g):w.m.all (1 - sl)=(List.range n).flatMap g:=by
 have hs:siz n n (1 - sl)=n:=zPg
 unfold Mp.all Mp.upto
 rw[zLs h.two (zew h.bit),hs]
 refine zWj _ fun i hi=>?_
 rw[zMs h.two (zew h.bit) (by rw[hs]; exact List.mem_range.1 hi)]
 exact h.g i (List.mem_range.1 hi)
theorem close_run(h:Rd w n sl f g)(he:w.er=0)(hs:w.sg=3)(hz:w.sd.sz≤((List.range n).flatMap f).length)(hd:sha (((List.range n).flatMap f).take w.sd.sz.toNat)=w.sd.dg) :
  ∃ w',w.step=(true,w')∧Rd w' n sl f g∧w'.er=0∧w'.sg=4∧w'.wr=w.wr∧w'.m.d.done=[]:=by
 obtain⟨r1,r2,r3⟩:=h.syncs
 have ha:w.syncs.m.all (w.s.part w.slot)=(List.range n).flatMap f:=by
  rw[h.s2,h.part]; exact r1.all
 refine⟨{ w.syncs with sg:=4 },?_,⟨r1.hold,r1.s1,r1.s2,r1.p0,r1.p1,r1.bit,r1.two,r1.up,r1.bud,r1.most,r1.f,r1.g⟩,r2,rfl,rfl,r3⟩
 rw[zFy he hs]
 unfold Wr.close
 rw[if_neg (by rw[r2]; decide),ha,if_neg (by rintro (h1|h1); omega; exact h1 hd)]
def zoG(b:List Int)(i:Nat):List Int:=zWv ((b.drop (64 * i)).take 64)
theorem zgq:∀ k,64 * k≤b.length→(List.range k).flatMap (zoG b)=b.take (64 * k)
 | 0,_=>by rw[Nat.mul_zero,List.take_zero]; rfl
 | k+1,h=>by
  rw[List.range_succ,List.flatMap_append,zgq k (by omega),List.flatMap_cons,List.flatMap_nil,List.append_nil]
  unfold zoG zWv
  rw[List.length_take,List.length_drop,Nat.min_eq_left (by omega),Nat.sub_self,List.replicate_zero,List.append_nil,show 64 * (k+1)=64 * k+64 by omega,List.take_add]
theorem zSD:(List.range (zBd b.length)).flatMap (zoG b)=b++List.replicate (64 * zBd b.length - b.length) 255:=by
 unfold zBd
 have hd:=Nat.div_add_mod b.length 64
 have hm:=Nat.mod_lt b.length (show 0 < 64 by omega)
 generalize hq:b.length / 64=q at *
 by_cases h0:b.length % 64=0
 ·rw[show (b.length+63) / 64=q by omega,zgq q (by omega),List.take_of_length_le (by omega),show 64 * q - b.length=0 by omega,List.replicate_zero,List.append_nil]
 ·rw[show (b.length+63) / 64=q+1 by omega,List.range_succ,List.flatMap_append,zgq q (by omega),List.flatMap_cons,List.flatMap_nil,List.append_nil]
  unfold zoG zWv
  have hl:((b.drop (64 * q)).take 64)=b.drop (64 * q):=List.take_of_length_le (by rw[List.length_drop]; omega)
  rw[hl,← List.append_assoc,List.take_append_drop,List.length_drop]
  congr 2
  omega
def zql(b:List Int)(many:Nat)(i:Nat):List Int:=if i < many then zoG b i else blank
theorem zur:∀ t,(List.range (zBd b.length+t)).flatMap (zql b (zBd b.length))=b++List.replicate (64 * (zBd b.length+t) - b.length) 255
 | 0=>by
  rw[Nat.add_zero,← zSD]
  exact zWj _ fun i hi=>if_pos (List.mem_range.1 hi)
 | t+1=>by
  rw[← Nat.add_assoc,List.range_succ,List.flatMap_append,zur t,List.flatMap_cons,List.flatMap_nil,List.append_nil]
  have:zql b (zBd b.length) (zBd b.length+t)=List.replicate 64 255:=if_neg (by omega)
  have hn:b.length≤64 * zBd b.length:=by unfold zBd; omega
  rw[this,List.append_assoc,List.replicate_append_replicate]
  congr 2
  omega
theorem zhq(h:zBd b.length≤n):(List.range n).flatMap (zql b (zBd b.length))=b++List.replicate (64 * n - b.length) 255:=by
 have:=zur (b:=b) (n - zBd b.length)
 rw[show zBd b.length+(n - zBd b.length)=n by omega] at this
 exact this
end J
