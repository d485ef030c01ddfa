/- texts of the proof, one behind the other -/
import Derived.Test.YtnemiikeflojaaaGreatUF
set_option linter.unusedSimpArgs false
set_option linter.unusedSectionVars false
set_option linter.unusedVariables false
set_option maxRecDepth 100000
namespace J
open Go Go.Ab
variable{H:Heap}{Γ:List (Nat × Blk)}{K:VH}{v w x:Value}{xs ys:List Int}{j p:Nat}{e:Int}
theorem zcv(hO:St H Γ)(hj:Γ[j]?=some (p,rdr v e))(hv:RdB Γ v xs)(hk:K (int (zZu xs e)) H):wCall P zQi [ptr p 0] H K:=by
 apply ziz; unfold zhz
 refine zaa zfa ?_
 refine zaa zga ?_
 refine zha hO j hj rfl ?_
 refine zaa zfb ?_
 unfold zZu at hk
 refine zja (fun h=>?_) (fun h=>?_)
 ·refine zaa zfa ?_
  refine zaa zga ?_
  refine zha hO j hj rfl ?_
  refine zDa hv.lenSl ?_
  repeat (first|refine oi ?_|refine ow ?_|refine wy ?_|refine wn ?_|refine wt ?_|refine wf' ?_|refine cy ?_|refine cn ?_)
  refine zja (fun h2=>?_) (fun h2=>?_)
  ·rw[if_pos ⟨h,by omega⟩] at hk
   exact hk
  ·rw[if_neg (by omega)] at hk
   refine zaa zfa ?_
   refine zaa zga ?_
   refine zha hO j hj rfl ?_
   exact hk
 ·repeat (first|refine oi ?_|refine ow ?_|refine wy ?_|refine wn ?_|refine wt ?_|refine wf' ?_|refine cy ?_|refine cn ?_)
  rw[if_neg (fun h'=>h h'.1)] at hk
  refine zha hO j hj rfl ?_
  exact hk
set_option maxHeartbeats 1000000 in
theorem zom{n:Nat}(hO:St H Γ)(hj:Γ[j]?=some (p,rdr v e))(hv:RdB Γ v xs)(hn:n≤1000000)(hx:xs.length≤1000000)
  (hk:∀ H' v2 v' cs',St H' (rdN Γ j p xs e n v2++zGa v' cs')→Inh v xs v2 (tkR xs e n)→OwnB v' (tkB xs e n) cs'→K v' H'):wCall P zWi [ptr p 0,int n] H K:=by
 apply zCz; unfold zBz
 have hjl:=(List.getElem?_eq_some_iff.1 hj).1
 refine zwa (fun l' H'=>l'=[ptr p 0,int n]∧St H' Γ) ?_ ?_
 ·repeat (first|refine oi ?_|refine ow ?_|refine wy ?_|refine wn ?_|refine wt ?_|refine wf' ?_|refine cy ?_|refine cn ?_)
  exact⟨rfl,hO⟩
 clear hO
 rintro l' H ⟨rfl,hO⟩
 try simp only[zla,zma]
 refine zwa (fun l' H'=>l'=[ptr p 0,int n]∧St H' (Γ.set j (p,rdr v (tkE xs e n)))) ?_ ?_
 ·refine zwa (fun l' H'=>l'=[ptr p 0,int n,.bool (decide (e=0∧xs.length < n))]∧St H' Γ) ?_ ?_
  ·refine zaa zfa ?_
   refine zaa zga ?_
   refine zha hO j hj rfl ?_
   refine zaa zfb ?_
   refine zja (fun h=>?_) (fun h=>?_)
   ·refine zaa zfa ?_
    refine zaa zga ?_
    refine zha hO j hj rfl ?_
    refine zDa hv.lenSl ?_
    repeat (first|refine oi ?_|refine ow ?_|refine wy ?_|refine wn ?_|refine wt ?_|refine wf' ?_|refine cy ?_|refine cn ?_)
    refine⟨?_,hO⟩
    rw[decide_eq_decide.2 (show (xs.length:Int) < n↔(e=0∧xs.length < n) by omega)]
   ·repeat (first|refine oi ?_|refine ow ?_|refine wy ?_|refine wn ?_|refine wt ?_|refine wf' ?_|refine cy ?_|refine cn ?_)
    exact⟨by rw[decide_eq_false (show ¬ (e=0∧xs.length < n) from fun h'=>h h'.1)],hO⟩
  clear hO
  rintro l' H ⟨rfl,hO⟩
  try simp only[zla,zma]
  refine zja (fun h=>?_) (fun h=>?_)
  ·refine zaa zfa ?_
   refine zaa zga ?_
   refine zua hO j hj rfl (show 1 < 2 by omega) (show _=[v,int 51] from rfl) ?_
   intro H hO
   refine⟨trivial,?_⟩
   unfold tkE
   rw[if_neg (by omega),if_pos h.1]
   exact hO
  ·refine⟨trivial,?_⟩
   have:tkE xs e n=e:=by
    unfold tkE
    by_cases h2:e=0
    ·rw[if_pos ⟨h2,by omega⟩,h2]
    ·rw[if_neg (fun h=>h2 h.1),if_neg h2]
   rw[this,zKr hj]
   exact hO
 clear hO
 rintro l' H ⟨rfl,hO⟩
 try simp only[zla,zma]
 have hj2:=zdw (y:=(p,rdr v (tkE xs e n))) hj
 refine zaa zfa ?_
 refine zaa zga ?_
 refine zha hO j hj2 rfl ?_
 refine zaa zKa ?_
 by_cases hg:e=0∧n≤xs.length
 ·have he:tkE xs e n=0:=if_pos hg
  have hb:tkB xs e n=xs.take n:=if_pos hg
  have hr:tkR xs e n=xs.drop n:=if_pos hg
  refine zKp (fun h=>h he) ?_
  refine zEa hO (zkm _) ?_
  intro r H hO
  refine zaa zfa ?_
  refine zaa zga ?_
  refine zha hO j (zza hj2) rfl ?_
  have hv2:=zsD (b':=rdr v (tkE xs e n)) (p':=p) hv hj (RdB.shape hv)
  obtain⟨v1,e1,r1⟩:=zzx hv2 hg.2
  obtain⟨v2,e2,r2⟩:=zmo hv2 hg.2
  refine zaa e1 ?_
  refine zGe (v:=sl r 0 0 3) (cs:=[]) (xs:=[]) hO (.inr ⟨r,.inr ⟨rfl,rfl⟩,rfl,Nat.le_refl _,rfl⟩) (r1 _ hv2) (by rw[List.length_take]; simp; omega) ?_
  intro H v' cs' hO hv'
  refine zaa zfa ?_
  refine zaa zga ?_
  refine zha hO j (zza hj2) rfl ?_
  refine zaa e2 ?_
  refine zaa zfa ?_
  refine zaa zga ?_
  obtain⟨a2,n2,c2,rfl⟩:=RdB.shape (r2 _ hv2)
  refine zua hO j (zza hj2) rfl (show 0 < 2 by omega) (show _=[.slice a2 n2 c2,int (tkE xs e n)] from rfl) ?_
  intro H hO
  rw[List.set_append_left _ _ (by rw[List.length_set]; exact hjl),List.set_set] at hO
  exact hk _ _ _ cs' hO (by rw[hr]; exact r2) (by rw[hb]; exact hv')
 ·have he:tkE xs e n≠0:=by unfold tkE; rw[if_neg hg]; split <;> omega
  have hb:tkB xs e n=[]:=if_neg hg
  have hr:tkR xs e n=[]:=if_neg hg
  refine zUw he ?_
  refine zaa zfa ?_
  refine zaa zga ?_
  refine zua hO j hj2 rfl (show 0 < 2 by omega) (show _=[zya,int (tkE xs e n)] from rfl) ?_
  intro H hO
  rw[List.set_set] at hO
  refine hk _ zya zya [] (by show St H (_++[]); rw[List.append_nil]; exact hO) (by rw[hr]; exact .none) (by rw[hb]; exact .nil)
end J
set_option maxRecDepth 100000
namespace J
open Go Go.Ab
variable{H:Heap}{Γ:List (Nat × Blk)}{K:VH}{v w x:Value}{xs ys:List Int}{j p:Nat}{e:Int}
theorem zzh{k:Nat}(hk8:k≤8)(hO:St H Γ)(hj:Γ[j]?=some (p,rdr v e))(hv:RdB Γ v xs)(hx:xs.length≤1000000)(hb:∀ x ∈ xs,0≤x∧x≤255)
  (hk:∀ H' v2,St H' (rdN Γ j p xs e k v2)→Inh v xs v2 (tkR xs e k)→K (zib .u64 (leV (tkB xs e k))) H'):wCall P zbb [ptr p 0,int k] H K:=by
 apply zVq; unfold zJn
 refine zKk hk8 ?_
 refine zom hO hj hv (by omega) hx ?_
 intro H v2 v' cs' hO r2 hv'
 have hbb:=RdB.bytes hb k e
 have hbl:=zAx xs e k
 generalize tkB xs e k=bs at *
 have hk:=hk (v2:=v2)
 generalize rdN Γ j p xs e k v2=Γ2 at *
 refine zDa hv'.lenSl ?_
 refine zol (fun k l' H'=>∃ y:Nat,y≤bs.length∧k=bs.length - y∧l'=[.int .u64 0,zib .u64 (leV (bs.take y)),zib .u64 (256 ^ y % 2 ^ 64),v',int bs.length,int y]∧St H' (Γ2++zGa v' cs')) _ _ ?_ bs.length _ _ ⟨0,by omega,by omega,by simp[leV],hO⟩
 clear hO
 rintro k l' H' ⟨y,hy,rfl,rfl,hO⟩
 unfold zuj
 try simp only[zla,zma]
 repeat (first|refine oi ?_|refine ow ?_|refine wy ?_|refine wn ?_|refine wt ?_|refine wf' ?_|refine cy ?_|refine cn ?_)
 refine zja (fun h=>?_) (fun h=>?_)
 ·have hyl:y < bs.length:=by omega
  have hx:=hbb _ (List.getElem_mem hyl)
  obtain⟨s1,s2⟩:=zYx hbb (show y < 8 by omega) hyl
  obtain⟨p2,o,c,j2,b,rfl,h1,h2⟩:=(hv'.rd.app' (Γ:=Γ2)).at hyl
  repeat (first|refine oi ?_|refine ow ?_|refine wy ?_|refine wn ?_|refine wt ?_|refine wf' ?_|refine cy ?_|refine cn ?_)
  refine zha hO j2 h1 (v:=.int .u8 bs[y]) (by simpa using h2) ?_
  rw[zuf hx.1]
  refine zDa (cvU rfl) ?_
  rw[show bs[y].toNat % szU .u64=bs[y].toNat from Nat.mod_eq_of_lt (show bs[y].toNat < 2 ^ 64 by omega)]
  refine zaa (zIi rfl) ?_
  refine zaa (zrn rfl) ?_
  refine zaa (zIi (b:=256) rfl) ?_
  rw[show szU .u64=2 ^ 64 from rfl,s1,s2]
  repeat (first|refine oi ?_|refine ow ?_|refine wy ?_|refine wn ?_|refine wt ?_|refine wf' ?_|refine cy ?_|refine cn ?_)
  exact⟨_,by omega,y+1,by omega,rfl,rfl,hO⟩
 ·have e:y=bs.length:=by omega
  subst e
  repeat (first|refine oi ?_|refine ow ?_|refine wy ?_|refine wn ?_|refine wt ?_|refine wf' ?_|refine cy ?_|refine cn ?_)
  rw[List.take_of_length_le (Nat.le_refl _)]
  exact hk _ hO.left r2
end J
set_option maxRecDepth 100000
namespace J
open Go Go.Ab
variable{H:Heap}{Γ:List (Nat × Blk)}{K:VH}{v w x:Value}{xs ys:List Int}{j p:Nat}{e:Int}
set_option maxHeartbeats 4000000 in
theorem zfh(hO:St H Γ)(hj:Γ[j]?=some (p,rdr v e))(hv:RdB Γ v xs)(hx:xs.length≤1000000)(hb:∀ x ∈ xs,0≤x∧x≤255)
  (hk:∀ H' v2,St H' (rdN Γ j p xs e 46 v2)→Inh v xs v2 (tkR xs e 46)→K (.tuple [agg (slC (zJk xs e).1),int (zJk xs e).2].toArray) H'):wCall P ztd [ptr p 0] H K:=by
 apply zjx; unfold zOv
 have hjl:=(List.getElem?_eq_some_iff.1 hj).1
 rw[zGE]
 refine zxa hO ?_
 intro q H hO
 refine zom (n:=46) hO (zza hj) hv.app (by omega) hx ?_
 intro H v2 v' cs' hO r2' hv'
 unfold rdN at hO
 rw[List.set_append_left _ _ hjl] at hO
 have hk:=hk (v2:=v2)
 have hj2:=zdw (y:=(p,rdr v2 (tkE xs e 46))) hj
 have hbb:=RdB.bytes hb 46 e
 unfold rdN zJk at hk
 generalize hΓ2:Γ.set j (p,rdr v2 (tkE xs e 46))=Γ2 at *
 have hO:St H ((Γ2++[(q,⟨slC (slz 0),true⟩)])++zGa v' cs'):=hO
 refine zaa zfa ?_
 refine zaa zga ?_
 refine zha hO j (zza (zza hj2)) rfl ?_
 refine zaa zKa ?_
 refine zja (fun h=>?_) (fun h=>?_)
 ·rw[if_pos h] at hk
  refine zaa b26 ?_
  refine zaa zfa ?_
  refine zaa zga ?_
  refine zha hO j (zza (zza hj2)) rfl ?_
  have hjl2:=(List.getElem?_eq_some_iff.1 hj2).1
  have hne:=St.ne hO (i:=j) (j:=Γ2.length+0) (zza (zza hj2)) (zza (zqa rfl)) (by omega)
  refine zoa hO (Γ2.length+0) (zza (zqa rfl)) rfl rfl rfl ?_
  intro H hO
  refine⟨zHM hne,?_⟩
  rw[List.set_append_left _ _ (by simp),Go.Ab.set_r] at hO
  replace hO:St H (Γ2++[(q,⟨slC (slz 0),true⟩)]):=hO.left
  refine zia hO (Γ2.length+0) (zqa rfl) rfl (by omega) ?_
  exact hk _ hO.left r2'
 ·rw[if_neg h] at hk
  have hg:e=0∧46≤xs.length:=by
   by_cases hg:e=0∧46≤xs.length
   ·exact hg
   ·exfalso; apply h; unfold tkE; rw[if_neg hg]; split <;> omega
  have hlen:(tkB xs e 46).length=46:=by unfold tkB; rw[if_pos hg,List.length_take]; omega
  generalize tkB xs e 46=bs at *
  have bd:∀ i (h:i < bs.length),0≤bs[i]∧bs[i]≤255:=fun i h=>hbb _ (List.getElem_mem h)
  obtain⟨X,hX⟩:∃ X,X=(Γ2++[(q,⟨slC (slz 0),true⟩)])++zGa v' cs':=⟨_,rfl⟩
  rw[← hX] at hO
  have hv0:RdB X v' bs:=by rw[hX]; exact hv'.rd.app'
  have b0:=bd 0 (by omega)
  have b1:=bd 1 (by omega)
  have b10:=bd 10 (by omega)
  have b11:=bd 11 (by omega)
  have b12:=bd 12 (by omega)
  have b13:=bd 13 (by omega)
  refine byte_at (n:=0) hO hv0 rfl (by omega) ?_
  refine zDa (zeg (by omega) (by omega)) ?_
  refine byte_at (n:=1) hO hv0 rfl (by omega) ?_
  refine zDa (zeg (by omega) (by omega)) ?_
  refine zaa (zYN _ _) ?_
  refine zxa hO ?_
  intro p5 H hO
  refine zoa hO (X.length+0) (zqa rfl) rfl rfl rfl ?_
  intro H hO
  replace hO:St H (X++[(p5,⟨slC ⟨bs[0],bs[1],0,0,fun _=>0⟩,true⟩)]):=hO.set_r
  refine zcp (fun k l' H'=>∃ y:Nat,y≤8∧k=8 - y∧l'=[ptr q 0,int 0,v',ptr p5 0,zib .u64 (256 ^ y % 2 ^ 64),int y]∧St H' (X++[(p5,⟨slC ⟨bs[0],bs[1],leV ((bs.drop 2).take y),0,fun _=>0⟩,true⟩)])) _ _ ?_ 8 _ _ ⟨0,by omega,by omega,rfl,hO⟩
  clear hO
  rintro k l' H' ⟨y,hy,rfl,rfl,hO⟩
  unfold zHn
  try simp only[zla,zma]
  repeat refine oi ?_
  refine zja (fun h8=>?_) (fun h8=>?_)
  ·have hyl:y < (bs.drop 2).length:=by rw[List.length_drop]; omega
   have hbd:∀ x ∈ bs.drop 2,0≤x∧x≤255:=fun x hx=>hbb x (List.mem_of_mem_drop hx)
   obtain⟨s1,s2⟩:=zYx hbd (show y < 8 by omega) hyl
   have hby:=hbd _ (List.getElem_mem hyl)
   have hget:(bs.drop 2)[y]=bs[2+y]:=by rw[List.getElem_drop]
   rw[hget] at s1 hby
   repeat refine oi ?_
   refine zha hO (X.length+0) (zqa rfl) rfl ?_
   repeat refine oi ?_
   refine byte_at (n:=2+y) hO hv0.app (by omega) (by omega) ?_
   rw[zuf hby.1]
   refine zDa (cvU rfl) ?_
   rw[show bs[2+y].toNat % szU .u64=bs[2+y].toNat from Nat.mod_eq_of_lt (show bs[2+y].toNat < 2 ^ 64 by omega)]
   refine zaa (zIi rfl) ?_
   refine zaa (zrn rfl) ?_
   rw[show szU .u64=2 ^ 64 from rfl,Nat.mul_comm (256 ^ y % 2 ^ 64) bs[2+y].toNat,s1]
   refine zaa zga ?_
   refine zua hO (X.length+0) (zqa rfl) rfl (show 0+2 < 36 by omega) (show _=slC ⟨bs[0],bs[1],leV ((bs.drop 2).take (y+1)),0,fun _=>0⟩ from rfl) ?_
   intro H hO
   refine zaa (zIi (b:=256) rfl) ?_
   rw[show szU .u64=2 ^ 64 from rfl,s2]
   repeat refine oi ?_
   exact⟨_,by omega,y+1,by omega,rfl,rfl,hO.set_r⟩
  have hy8:y=8:=by omega
  subst hy8
  repeat refine cy ?_
  have hv1:=hv0.app (Δ:=[(p5,(⟨slC ⟨bs[0],bs[1],leV ((bs.drop 2).take 8),0,fun _=>0⟩,true⟩:Blk))])
  refine byte_at (n:=10) hO hv1 rfl (by omega) ?_
  refine zDa (zeg (by omega) (by omega)) ?_
  refine byte_at (n:=11) hO hv1 rfl (by omega) ?_
  refine zDa (zeg (by omega) (by omega)) ?_
  refine zaa (zon (by omega) (by omega)) ?_
  refine zaa (zxb (by omega) (by omega)) ?_
  refine byte_at (n:=12) hO hv1 rfl (by omega) ?_
  refine zDa (zeg (by omega) (by omega)) ?_
  refine zaa (zon (by omega) (by omega)) ?_
  refine zaa (zxb (by omega) (by omega)) ?_
  refine byte_at (n:=13) hO hv1 rfl (by omega) ?_
  refine zDa (zeg (by omega) (by omega)) ?_
  refine zaa (zon (by omega) (by omega)) ?_
  refine zaa (zxb (by omega) (by omega)) ?_
  have h4:((leV ((bs.drop 10).take 4):Nat):Int)=bs[10]+(256:Int) * bs[11]+(65536:Int) * bs[12]+(16777216:Int) * bs[13]:=by
   have:=zLO (bs.drop 10) (by rw[List.length_drop]; omega) fun x hx=>hbb x (List.mem_of_mem_drop hx)
   simp only[List.getElem_drop] at this
   exact this
  rw[← h4]
  have h0:=zBN bs (by omega) hbb
  have h1:=zBN (bs.drop 1) (by rw[List.length_drop]; omega) fun x hx=>hbb x (List.mem_of_mem_drop hx)
  simp only[List.getElem_drop,Nat.add_zero] at h1
  rw[← h0,← h1] at hO
  refine zaa zga ?_
  refine zua hO (X.length+0) (zqa rfl) rfl (show 0+3 < 36 by omega) (show _=slC ⟨leV (bs.take 1),leV ((bs.drop 1).take 1),leV ((bs.drop 2).take 8),leV ((bs.drop 10).take 4),fun k=>if k < 0 then ((bs.drop 14).take 32).getD k 0 else 0⟩ from rfl) ?_
  intro H hO
  replace hO:=hO.set_r
  refine zdp (fun k l' H'=>∃ y:Nat,y≤32∧k=32 - y∧l'=[ptr q 0,int 0,v',ptr p5 0,int y]∧St H' (X++[(p5,⟨slC ⟨leV (bs.take 1),leV ((bs.drop 1).take 1),leV ((bs.drop 2).take 8),leV ((bs.drop 10).take 4),fun k=>if k < y then ((bs.drop 14).take 32).getD k 0 else 0⟩,true⟩)])) _ _ ?_ 32 _ _ ⟨0,by omega,by omega,rfl,hO⟩
  clear hO hv1
  rintro k l' H' ⟨y,hy,rfl,rfl,hO⟩
  unfold zIn
  try simp only[zla,zma]
  repeat refine oi ?_
  refine zja (fun h8=>?_) (fun h8=>?_)
  ·repeat refine oi ?_
   refine byte_at (n:=14+y) hO hv0.app (by omega) (by omega) ?_
   repeat refine oi ?_
   refine zua hO (X.length+0) (zqa rfl) rfl (show 0+4+((y:Nat):Int).toNat * 1 < 36 by omega) (cs':=slC ⟨leV (bs.take 1),leV ((bs.drop 1).take 1),leV ((bs.drop 2).take 8),leV ((bs.drop 10).take 4),fun k=>if k < y+1 then ((bs.drop 14).take 32).getD k 0 else 0⟩) ?_ ?_
   ·rw[show 0+4+((y:Nat):Int).toNat * 1=y+4 by omega,zGM (by omega)]
    congr 2
    funext k
    by_cases hk1:k=y
    ·subst hk1
     rw[if_pos rfl,if_pos (by omega)]
     rw[List.getD_eq_getElem?_getD,List.getElem?_take_of_lt (by omega),List.getElem?_drop,List.getElem?_eq_getElem (by omega)]
     rfl
    ·rw[if_neg hk1]
     show (if k < y then _ else _)=_
     by_cases hk2:k < y
     ·rw[if_pos hk2,if_pos (by omega)]
     ·rw[if_neg hk2,if_neg (by omega)]
   ·intro H hO
    repeat refine oi ?_
    exact⟨_,by omega,y+1,by omega,rfl,rfl,hO.set_r⟩
  have hy8:y=32:=by omega
  subst hy8
  have hsl:(⟨leV (bs.take 1),leV ((bs.drop 1).take 1),leV ((bs.drop 2).take 8),leV ((bs.drop 10).take 4),fun k=>if k < 32 then ((bs.drop 14).take 32).getD k 0 else 0⟩:Sl)=zKj bs:=by
   unfold zKj
   congr 1
   funext k
   by_cases hk1:k < 32
   ·rw[if_pos hk1]
   ·rw[if_neg hk1,List.getD_eq_getElem?_getD,List.getElem?_eq_none (by rw[List.length_take]; omega)]; rfl
  rw[hsl] at hO
  repeat refine cy ?_
  refine zia hO (X.length+0) (zqa rfl) rfl (by omega) ?_
  refine zCb hO ?_
  intro H hO
  have hO':=hO
  rw[hX,List.append_assoc,List.append_assoc] at hO
  by_cases hr:SRight (zKj bs)
  ·rw[if_pos hr] at hk
   rw[decide_eq_true hr]
   repeat (first|refine oi ?_|refine wn ?_)
   refine zia hO' (X.length+0) (zqa rfl) rfl (by omega) ?_
   refine zoa hO (Γ2.length+0) (zqa rfl) rfl rfl rfl ?_
   intro H hO
   replace hO:=hO.set_r
   refine zia hO (Γ2.length+0) (zqa rfl) rfl (by omega) ?_
   exact hk _ hO.left r2'
  ·rw[if_neg hr] at hk
   rw[decide_eq_false hr]
   repeat (first|refine oi ?_|refine wt ?_)
   refine zaa b26 ?_
   refine zoa hO (Γ2.length+0) (zqa rfl) rfl rfl rfl ?_
   intro H hO
   replace hO:=hO.set_r
   refine zia hO (Γ2.length+0) (zqa rfl) rfl (by omega) ?_
   exact hk _ hO.left r2'
end J
set_option maxRecDepth 100000
namespace J
open Go Go.Ab
variable{H:Heap}{Γ:List (Nat × Blk)}{K:VH}{v w x:Value}{xs ys bs:List Int}{j p:Nat}{e:Int}
def ArgW(Γ:List (Nat × Blk))(v:Value)(xs:List Int):Prop:=(v=zya∧xs=[])∨∃ (p j:Nat) (w:Bool),v=sl p 0 xs.length 2∧Γ[j]?=some (p,(⟨by8 xs,w⟩:Blk))
theorem ArgW.rd(h:ArgW Γ v xs):RdB Γ v xs:=by
 rcases h with h|⟨p,j,w,h1,h2⟩
 ·exact .inl h
 ·exact .inr ⟨p,0,2,h1,.inl rfl,.inr ⟨j,_,h2,by rw[List.drop_zero]; exact List.take_of_length_le (by simp)⟩⟩
theorem zmC(hO:St H Γ)(hv:RdB Γ v bs)(hl:bs.length≤8)(hbb:∀ x ∈ bs,0≤x∧x≤255)(hk:K (zib .u64 (leV bs)) H):wCall P zKf [v] H K:=by
 apply zct; unfold zaq
 refine zDa hv.lenSl ?_
 refine zHm (fun k l' H'=>∃ y:Nat,y≤bs.length∧k=bs.length - y∧l'=[.int .u64 0,zib .u64 (leV (bs.take y)),zib .u64 (256 ^ y % 2 ^ 64),v,int bs.length,int y]∧H'=H) _ _ ?_ bs.length _ _ ⟨0,by omega,by omega,by simp[leV],rfl⟩
 rintro k l' H' ⟨y,hy,rfl,rfl,rfl⟩
 unfold zok
 try simp only[zla,zma]
 repeat refine oi ?_
 refine zja (fun h=>?_) (fun h=>?_)
 ·have hyl:y < bs.length:=by omega
  have hx:=hbb _ (List.getElem_mem hyl)
  obtain⟨s1,s2⟩:=zYx hbb (show y < 8 by omega) hyl
  refine byte_at (n:=y) hO hv rfl hyl ?_
  rw[zuf hx.1]
  refine zDa (cvU rfl) ?_
  rw[show bs[y].toNat % szU .u64=bs[y].toNat from Nat.mod_eq_of_lt (show bs[y].toNat < 2 ^ 64 by omega)]
  refine zaa (zIi rfl) ?_
  refine zaa (zrn rfl) ?_
  refine zaa (zIi (b:=256) rfl) ?_
  rw[show szU .u64=2 ^ 64 from rfl,Nat.mul_comm (256 ^ y % 2 ^ 64) bs[y].toNat,s1,s2]
  repeat refine oi ?_
  exact⟨_,by omega,y+1,by omega,rfl,rfl,rfl⟩
 ·have e:y=bs.length:=by omega
  subst e
  repeat refine cy ?_
  rw[List.take_of_length_le (Nat.le_refl _)]
  exact hk
theorem zZN(a:Option Addr)(n c:Nat):(zAa P 151).f [(0,.slice a n c)]=some (agg [.slice a n c,int 0]):=by kernel_rfl
theorem b35(s s':Sl):(zAa P 28).f [(0,agg (slC s)),(1,agg (slC s'))]=some (agg (slC s++slC s')):=by kernel_rfl
theorem b37(s s':Sl)(a b c:Int):(zAa P 30).f [(0,agg (slC s++slC s')),(1,int a),(2,int b),(3,.int .u64 c)]=some (agg (tbC ⟨s,s',a,b,c⟩)):=by kernel_rfl
set_option maxHeartbeats 8000000 in
theorem zvr(hO:St H Γ)(ha:ArgW Γ v bs)(hx:bs.length≤1000000)(hb:∀ x ∈ bs,0≤x∧x≤255)
  (hk:∀ H',St H' Γ→K (.tuple [agg (tbC (zzd bs).1),int (zzd bs).2].toArray) H'):wCall P zMi [v] H K:=by
 apply zAu; unfold zUs
 have hv:=ha.rd
 rw[zdH]
 refine zxa hO ?_
 intro q H hO
 have bad:(¬ (bs.length=102∧TRight (zLj bs)))→∀ H',St H' Γ→K (.tuple [agg (tbC tbz),int 111].toArray) H':=fun h H' hO'=>by
  have:=hk _ hO'
  unfold zzd at this
  rw[if_neg h] at this
  exact this
 refine zDa hv.lenSl ?_
 repeat refine oi ?_
 refine zja (fun h=>?_) (fun h=>?_)
 ·refine zaa b29 ?_
  refine zoa hO (Γ.length+0) (zqa rfl) rfl rfl rfl ?_
  intro H hO
  replace hO:=hO.set_r
  refine zia hO (Γ.length+0) (zqa rfl) rfl (by omega) ?_
  exact bad (by omega) _ hO.left
 have hl:bs.length=102:=by omega
 obtain⟨pv,jv,wv,rfl,hjv⟩:∃ (p j:Nat) (w:Bool),v=sl p 0 bs.length 2∧Γ[j]?=some (p,(⟨by8 bs,w⟩:Blk)):=by
  rcases ha with⟨_,rfl⟩|h
  ·simp at hl
  ·exact h
 have hne8:by8 bs≠[]:=by intro h; have:=congrArg List.length h; simp at this; subst this; simp at hl
 refine zaa (zZN _ _ _) ?_
 refine zxa hO ?_
 intro pr H hO
 rw[List.append_assoc] at hO
 have hO:St H (Γ++[(q,⟨tbC tbz,true⟩),(pr,rdr (sl pv 0 bs.length 2) 0)]):=hO
 obtain⟨k1,k2,k3⟩:=zDf (xs:=bs) (n:=46) (by omega)
 refine zfh hO (zqa (k:=1) rfl) hv.app hx hb ?_
 intro H v2 hO i2
 unfold rdN at hO
 rw[Go.Ab.set_r,k3] at hO
 replace hO:St H (Γ++[(q,⟨tbC tbz,true⟩),(pr,rdr v2 0)]):=hO
 have r2:=i2 _ hv
 rw[k2] at r2
 rw[zOr (by omega)]
 refine zaa zRh ?_
 refine zaa zSh ?_
 rw[zGE]
 refine zxa hO ?_
 intro p5 H hO
 rw[List.append_assoc] at hO
 refine zoa hO (Γ.length+2) (zqa rfl) rfl rfl rfl ?_
 intro H hO
 replace hO:=hO.set_r
 by_cases h1:SRight (zKj (bs.take 46))
 ·rw[if_pos h1] at hO ⊢
  replace hO:St H (Γ++[(q,⟨tbC tbz,true⟩),(pr,rdr v2 0),(p5,⟨slC (zKj (bs.take 46)),true⟩)]):=hO
  repeat (first|refine oi ?_|refine wn ?_)
  have l2:(bs.drop 46).length=56:=by rw[List.length_drop]; omega
  have hb2:∀ x ∈ bs.drop 46,0≤x∧x≤255:=fun x hx=>hb x (List.mem_of_mem_drop hx)
  obtain⟨m1,m2,m3⟩:=zDf (xs:=bs.drop 46) (n:=46) (by omega)
  refine zfh hO (zqa (k:=1) rfl) r2.app (by omega) hb2 ?_
  intro H v3 hO i3
  unfold rdN at hO
  rw[Go.Ab.set_r,m3] at hO
  replace hO:St H (Γ++[(q,⟨tbC tbz,true⟩),(pr,rdr v3 0),(p5,⟨slC (zKj (bs.take 46)),true⟩)]):=hO
  rw[zOr (by omega)]
  refine zaa zRh ?_
  refine zaa zSh ?_
  refine zxa hO ?_
  intro p7 H hO
  rw[List.append_assoc] at hO
  refine zoa hO (Γ.length+3) (zqa rfl) rfl rfl rfl ?_
  intro H hO
  replace hO:=hO.set_r
  obtain⟨s2,e2,hs2⟩:∃ s2 e2,(if SRight (zKj ((bs.drop 46).take 46)) then (zKj ((bs.drop 46).take 46),(0:Int)) else (slz 0,101))=(s2,e2):=⟨_,_,rfl⟩
  rw[hs2] at hO ⊢
  replace hO:St H (Γ++[(q,⟨tbC tbz,true⟩),(pr,rdr v3 0),(p5,⟨slC (zKj (bs.take 46)),true⟩),(p7,⟨slC s2,true⟩)]):=hO
  refine zia hO (Γ.length+2) (zqa rfl) rfl (by omega) ?_
  refine zia hO (Γ.length+3) (zqa rfl) rfl (by omega) ?_
  refine zaa (b35 _ _) ?_
  have b92:=hb _ (List.getElem_mem (show 92 < bs.length by omega))
  have b93:=hb _ (List.getElem_mem (show 93 < bs.length by omega))
  refine zaa (zHa (by omega) (by omega)) ?_
  refine zha hO jv (zza hjv) (v:=.int .u8 bs[92]) (by simp[by8,hl]) ?_
  refine zDa (zeg (by omega) (by omega)) ?_
  refine zaa (zHa (by omega) (by omega)) ?_
  refine zha hO jv (zza hjv) (v:=.int .u8 bs[93]) (by simp[by8,hl]) ?_
  refine zDa (zeg (by omega) (by omega)) ?_
  repeat refine oi ?_
  obtain⟨w4,e4,i4⟩:=zmo hv (n:=94) (by omega)
  refine zaa e4 ?_
  refine zmC hO (i4 _ hv).app (by rw[List.length_drop]; omega) (fun x hx=>hb x (List.mem_of_mem_drop hx)) ?_
  refine⟨zmb hO jv (zza hjv) hO jv (zza hjv) (zHg bs) (.inr hne8),zmb hO jv (zza hjv) hO jv (zza hjv) (zHg bs) (.inr hne8),zmb hO (Γ.length+3) (zqa rfl) hO (Γ.length+3) (zqa rfl) rfl,zmb hO (Γ.length+2) (zqa rfl) hO (Γ.length+2) (zqa rfl) rfl,?_⟩
  refine zaa (b37 _ _ _ _ _) ?_
  refine zxa hO ?_
  intro p8 H hO
  rw[List.append_assoc] at hO
  refine zoa hO (Γ.length+4) (zqa rfl) rfl rfl rfl ?_
  intro H hO
  replace hO:=hO.set_r
  have ht:(⟨zKj (bs.take 46),s2,bs[92],bs[93] - 1,leV (bs.drop 94)⟩:Tb)=⟨zKj (bs.take 46),s2,(zLj bs).act,(zLj bs).boo,(zLj bs).flo⟩:=by
   have q1:=zBN (bs.drop 92) (by rw[List.length_drop]; omega) fun x hx=>hb x (List.mem_of_mem_drop hx)
   have q2:=zBN (bs.drop 93) (by rw[List.length_drop]; omega) fun x hx=>hb x (List.mem_of_mem_drop hx)
   simp only[List.getElem_drop,Nat.add_zero] at q1 q2
   show _=(⟨_,_,((leV ((bs.drop 92).take 1):Nat):Int),((leV ((bs.drop 93).take 1):Nat):Int) - 1,((leV ((bs.drop 94).take 8):Nat):Int)⟩:Tb)
   rw[q1,q2,List.take_of_length_le (l:=bs.drop 94) (by rw[List.length_drop]; omega)]
  obtain⟨t',ht'⟩:∃ t':Tb,t'=⟨zKj (bs.take 46),s2,bs[92],bs[93] - 1,leV (bs.drop 94)⟩:=⟨_,rfl⟩
  rw[← ht'] at ht
  replace hO:St H (Γ++[(q,⟨tbC tbz,true⟩),(pr,rdr v3 0),(p5,⟨slC (zKj (bs.take 46)),true⟩),(p7,⟨slC s2,true⟩),(p8,⟨tbC t',true⟩)]):=by rw[ht']; exact hO
  clear ht'
  refine zwa (fun l' H'=>l'=[ptr q 0,ptr p8 0,.bool (decide (¬ (bs.length=102∧TRight (zLj bs))))]∧St H' (Γ++[(q,⟨tbC tbz,true⟩),(pr,rdr v3 0),(p5,⟨slC (zKj (bs.take 46)),true⟩),(p7,⟨slC s2,true⟩),(p8,⟨tbC t',true⟩)])∧((bs.length=102∧TRight (zLj bs))→t'=zLj bs)) ?_ ?_
  ·by_cases h2:SRight (zKj ((bs.drop 46).take 46))
   ·rw[if_pos h2] at hs2
    cases hs2
    have htt:t'=zLj bs:=ht
    repeat (first|refine oi ?_|refine wn ?_)
    refine zia hO (Γ.length+4) (zqa rfl) rfl (by omega) ?_
    refine zbd hO ?_
    intro H hO
    repeat refine oi ?_
    refine⟨?_,hO,fun _=>htt⟩
    rw[htt]
    by_cases hr:TRight (zLj bs) <;> simp[hr,hl]
   ·rw[if_neg h2] at hs2
    cases hs2
    repeat (first|refine oi ?_|refine wy ?_)
    refine⟨?_,hO,fun h=>absurd h.2.2.1 h2⟩
    rw[decide_eq_true (show ¬ (bs.length=102∧TRight (zLj bs)) from fun h=>h2 h.2.2.1)]
  clear hO
  rintro l' H ⟨rfl,hO,htt⟩
  try simp only[zla,zma]
  refine zja (fun h=>?_) (fun h=>?_)
  ·refine zaa b29 ?_
   refine zoa hO (Γ.length+0) (zqa rfl) rfl rfl rfl ?_
   intro H hO7
   replace hO7:=hO7.set_r
   refine zia hO7 (Γ.length+0) (zqa rfl) rfl (by omega) ?_
   exact bad h _ hO7.left
  ·have h:=Decidable.not_not.1 h
   refine zia hO (Γ.length+4) (zqa rfl) rfl (by omega) ?_
   refine zoa hO (Γ.length+0) (zqa rfl) rfl rfl rfl ?_
   intro H hO7
   replace hO7:=hO7.set_r
   refine zia hO7 (Γ.length+0) (zqa rfl) rfl (by omega) ?_
   have:=hk _ hO7.left
   unfold zzd at this
   rw[if_pos h,← htt h] at this
   exact this
 ·rw[if_neg h1] at hO ⊢
  repeat (first|refine oi ?_|refine wy ?_)
  refine zaa b29 ?_
  refine zoa hO (Γ.length+0) (zqa rfl) rfl rfl rfl ?_
  intro H hO7
  replace hO7:=hO7.set_r
  refine zia hO7 (Γ.length+0) (zqa rfl) rfl (by omega) ?_
  exact bad (fun h=>h1 h.2.1) _ hO7.left
end J
set_option maxRecDepth 100000
namespace J
open Go Go.Ab
section
variable{xs ys bs:List Int}{e:Int}{c:Ch}{l:List Ch}{k n:Nat}
end
section
variable{H:Heap}{Γ:List (Nat × Blk)}{K:VH}{v w x:Value}{xs ys bs:List Int}{j p:Nat}{e:Int}
set_option maxHeartbeats 8000000 in
theorem zdv(hO:St H Γ)(ha:ArgW Γ v bs)(hx:bs.length≤1000000)(hb:By bs)(hk:Made Γ K (zhH bs)):wCall P zNi [v] H K:=by
 apply zcz; unfold zbz
 have hv:=ha.rd
 obtain⟨av,nv,cv,ev⟩:=RdB.shape hv
 refine zaa (show (zAa P 151).f [(0,v)]=some (agg [v,int 0]) by rw[ev]; exact zZN _ _ _) ?_
 refine zxa hO ?_
 clear hO
 intro pr H hO
 replace hO:St H (Γ++[(pr,rdr v 0)]):=hO
 refine zzh (k:=1) (by omega) hO (zqa (k:=0) rfl) hv.app hx hb ?_
 intro H v1 hO i1
 unfold rdN at hO
 rw[Go.Ab.set_r] at hO
 replace hO:St H (Γ++[(pr,rdr v1 (tkE bs 0 1))]):=hO
 have hl1:=zEj hb 0 1
 refine zDa (zTy (by omega)) ?_
 obtain⟨m,hm⟩:∃ m,m=zUc bs 0 1:=⟨_,rfl⟩
 rw[show leV (tkB bs 0 1)=m from hm.symm] at hl1 ⊢
 unfold zhH at hk
 rw[← hm] at hk
 refine zEa hO (bs0 _) ?_
 intro r0 H hO
 obtain⟨M,hM⟩:∃ M,M=min m 9:=⟨_,rfl⟩
 rw[← hM] at hk
 obtain⟨G,hG⟩:∃ G,G=rGo M (tkR bs 0 1) (tkE bs 0 1):=⟨_,rfl⟩
 rw[← hG] at hk
 have hGc:∀ c ∈ G.1,CBy c:=by rw[hG]; exact zhC _ _ _ (zsb hb _ _)
 refine zTq (fun k l' H'=>∃ (y:Nat) (vv v':Value) (zs:List Int) (ee:Int) (la:List Ch),y≤M∧k=M - y∧l'=[v,zya,int 0,ptr pr 0,int m,v',int y]∧St H' ((Γ++[(pr,rdr vv ee)])++zGa v' (chs la))∧Own 40 v' la.length (chs la)∧la.length=y∧Inh v bs vv zs∧By zs∧zs.length≤1000000∧G=(la++(rGo (M - y) zs ee).1,(rGo (M - y) zs ee).2)) _ _ ?_ M _ _ ⟨0,v1,sl r0 0 0 81,tkR bs 0 1,tkE bs 0 1,[],by omega,by omega,rfl,hO,.inr ⟨r0,.inr rfl,rfl⟩,rfl,i1,zsb hb 1 0,by have:=zid bs 0 1; omega,by rw[hG]; rfl⟩
 clear hO
 rintro k l' H' ⟨y,vv,v',zs,ee,la,hy,rfl,rfl,hO,ho,hla,hi,hzb,hzl,hpg⟩
 unfold zVp
 have fin:y=M→zab (fun J=>
   wCall P zQi [ptr pr 0] H' fun t66 H13=>
   opP ((zsa P .neq 3 true).f t66 (.int .i64 0)) fun t67=>
   wIf t67 (
   opP (zra t67 (.bool true) undef) fun t75=>
   J [v',t75] H13) (
   wCall P zxf [v'] H13 fun t70 H17=>
   opW (zzb t70 H17) fun t71 H19=>
   opW (zzb v H19) fun t73 H21=>
   zrc (zjc H13 H17) (zNa [v])∧(opP ((zsa P .neq 9 false).f t71 t73) fun t74=>
   opP (zra t67 (.bool true) t74) fun t75_1=>
   J [v',t75_1] H21))) (fun l_1 H25=>
   wIf (nth l_1 1) (
   K (.tuple [(.slice none 0 0),(.int .i64 111)].toArray) H25) (
   K (.tuple [(nth l_1 0),(.int .i64 0)].toArray) H25)):=by
  intro hyM
  subst hyM
  have hpg:G=(la,zs,ee):=by
   rw[show y - y=0 by omega] at hpg
   rw[hpg]
   show (la++[],_)=_
   rw[List.append_nil]; rfl
  rw[hpg] at hk hGc
  refine zwa (fun l' H2=>l'=[v',.bool (decide (¬ (zZu zs ee=0∧lBy la=bs)))]∧St H2 ((Γ++[(pr,rdr vv ee)])++zGa v' (chs la))) ?_ ?_
  ·refine zcv hO (zza (zqa (k:=0) rfl)) (hi _ hv).app.app ?_
   refine zaa zKa ?_
   refine zja (fun h3=>?_) (fun h3=>?_)
   ·repeat refine oi ?_
    refine⟨?_,hO⟩
    rw[decide_eq_true (show ¬ (zZu zs ee=0∧lBy la=bs) from fun h=>h3 h.1)]
   ·refine znm hO (RdC.own ho).app' (by omega) (fun c hc=>(hGc c hc).2) ?_
    intro H2 v5 c5 hO2 h5
    refine zDa (h5.rd.app'.str hO2) ?_
    refine zDa (hv.app.app.app.str hO2) ?_
    refine⟨?_,?_⟩
    ·have hbe:by8 bs≠[]:=by
      intro hbe
      have hbn:bs=[]:=List.map_eq_nil_iff.1 hbe
      have h51:tkE bs 0 1=51:=(zdf (by rw[hbn]; simp)).2.2
      have hbad:=zfC y (tkR bs 0 1) (tkE bs 0 1) (by rw[h51]; decide)
      rw[← hG,hpg] at hbad
      exact hbad (zWt (Decidable.not_not.1 h3)).1
     have hOx:=hO
     have hOy:=hO2
     rcases ha with⟨rfl,_⟩|⟨pa,ja,wa,rfl,hja⟩
     ·rfl
     ·exact zmb (o:=0) hOx ja (zza (zza hja)) hOy ja (zza (zza (zza hja))) (zHg bs) (.inr hbe)
    ·refine zaa (zpL _ _ (zJD hGc) hb) ?_
     repeat refine oi ?_
     refine⟨?_,hO2.left⟩
     have h3:=Decidable.not_not.1 h3
     rw[decide_eq_decide.2 (show lBy la≠bs↔¬ (zZu zs ee=0∧lBy la=bs) from⟨fun h h'=>h h'.2,fun h h'=>h ⟨h3,h'⟩⟩)]
  rintro l' H2 ⟨rfl,hO2⟩
  try simp only[zla,zma]
  refine zja (fun h=>?_) (fun h=>?_)
  ·rw[if_neg h] at hk
   exact Made.none hk hO2.left.left
  ·rw[if_pos (Decidable.not_not.1 h)] at hk
   exact hk _ v' (St.mid hO2) ho
 try simp only[zla,zma]
 refine zwa (fun l' H2=>l'=[v,zya,int 0,ptr pr 0,int m,v',int y]∧H2=H'∧y < M) ?_ ?_
 ·repeat refine oi ?_
  refine zja (fun h2=>?_) (fun h2=>?_)
  ·repeat refine oi ?_
   refine zja (fun h3=>?_) (fun h3=>?_)
   ·exact⟨rfl,rfl,by omega⟩
   ·exact fin (by omega)
  ·repeat (first|refine oi ?_|refine wf' ?_|refine cy ?_)
   exact fin (by omega)
 rintro l' H2 ⟨rfl,rfl,hyM⟩
 clear fin
 try simp only[zla,zma]
 have hst:rGo (M - y) zs ee=((dec zs ee).1::(rGo (M - (y+1)) (dec zs ee).2.1 (dec zs ee).2.2.1).1,(rGo (M - (y+1)) (dec zs ee).2.1 (dec zs ee).2.2.1).2):=by
  rw[show M - y=(M - (y+1))+1 by omega]; rfl
 have hrest:=zqo (e:=ee) hzb
 have hdl:=zqL (xs:=zs) (e:=ee)
 obtain⟨d,hd⟩:∃ d,d=dec zs ee:=⟨_,rfl⟩
 rw[← hd] at hst hrest hdl
 let X:Value→Int→List (Nat × Blk):=fun v'' e''=>(Γ++[(pr,rdr v'' e'')])++zGa v' (chs la)
 have rv:∀ {v'' ys},Inh v bs v'' ys→∀ v3 e3 L,RdB (X v3 e3++L) v'' ys:=fun hi v3 e3 L=>(hi _ hv).app.app.app
 have fx:∀ {H:Heap} {v2:Value} {ys:List Int} {e2:Int} {L:List (Nat × Blk)} {k:Nat} {K':VH},k≤8→By ys→ys.length≤1000000→St H (X v2 e2++L)→Inh v bs v2 ys→(∀ H' v3,St H' (X v3 (tkE ys e2 k)++L)→Inh v bs v3 (tkR ys e2 k)→K' (zib .u64 (leV (tkB ys e2 k))) H')→wCall P zbb [ptr pr 0,int k] H K':=by
  intro H v2 ys e2 L k K' h8 hby hyl hOc hi hkk
  refine zzh h8 hOc (zza (zza (zqa (k:=0) rfl))) (rv hi v2 e2 L) hyl hby ?_
  intro H' v3 hO' hi'
  unfold rdN at hO'
  rw[List.set_append_left _ _ (by show Γ.length+0 < ((Γ++[_])++zGa v' (chs la)).length; simp),List.set_append_left _ _ (by simp),Go.Ab.set_r] at hO'
  exact hkk H' v3 hO' (hi.trans hi')
 have last:∀ (H:Heap) (v2:Value) (p8:Nat),St H (X v2 d.2.2.1++[(p8,⟨chC d.1,true⟩)])→Inh v bs v2 d.2.1→opW (zna 40 (ptr p8 0) H) fun t62 H35=>
   opW ((zpa P 71 1).f [(0,t62)] H35) fun t63 H37=>
   opW (zva 40 96 v' t63 H37) fun t64 H39=>
   opP ((zsa P .add 3 true).f (int y) (.int .i64 1)) fun t24=>
   ∃ k',k' < M - y∧∃ (z:Nat) (vv v':Value) (zs:List Int) (ee:Int) (la:List Ch),z≤M∧k'=M - z∧[v,zya,int 0,ptr pr 0,int m,t64,t24]=[v,zya,int 0,ptr pr 0,int m,v',int z]∧St H39 ((Γ++[(pr,rdr vv ee)])++zGa v' (chs la))∧Own 40 v' la.length (chs la)∧la.length=z∧Inh v bs vv zs∧By zs∧zs.length≤1000000∧G=(la++(rGo (M - z) zs ee).1,(rGo (M - z) zs ee).2):=by
  intro H v2 p8 hO hi2
  refine zia hO ((X v2 d.2.2.1).length+0) (zqa rfl) rfl (by omega) ?_
  refine zEa hO (bs1 _ _) ?_
  intro q H hO
  refine zYd (Γ:=Γ++[(pr,rdr v2 d.2.2.1)]) (St.mid hO) ho (by omega) ?_
  intro H v'' hO ho'
  repeat refine oi ?_
  refine⟨_,by omega,y+1,v2,v'',d.2.1,d.2.2.1,la++[d.1],by omega,rfl,rfl,hO,ho',by simp[hla],hi2,hrest,by omega,?_⟩
  rw[hpg,hst]
  simp
 have hO0:St H2 (X vv ee++[]):=by rw[List.append_nil]; exact hO
 refine fx (k:=1) (by omega) hzb hzl hO0 hi ?_
 intro H v1 hO i1
 rw[List.append_nil] at hO
 have hb1:=zsb hzb 1 ee
 have hx1:=zid zs ee 1
 have hlz:=zEj hzb ee 1
 refine zDa (zTy (by omega)) ?_
 refine zaa (zwO _) ?_
 rw[zRE]
 refine zxa hO ?_
 intro p8 H hO
 refine zoa hO ((X v1 (tkE zs ee 1)).length+0) (zqa rfl) rfl rfl rfl ?_
 intro H hO
 replace hO:St H (X v1 (tkE zs ee 1)++[(p8,⟨chC ⟨(zUc zs ee 1:Nat),0,0,slz 0,0⟩,true⟩)]):=hO.set_r
 unfold dec at hd
 refine zaa zga ?_
 refine zha hO ((X v1 (tkE zs ee 1)).length+0) (zqa rfl) (show _=some (int ((zUc zs ee 1:Nat):Int)) from rfl) ?_
 by_cases k1:zUc zs ee 1=1
 ·rw[if_pos k1] at hd
  repeat (first|refine oi ?_|refine wy ?_)
  refine fx (k:=1) (by omega) hb1 (by omega) hO i1 ?_
  intro H v2 hO i2
  have hl2:=zEj hb1 (tkE zs ee 1) 1
  have hb2:=zsb hb1 1 (tkE zs ee 1)
  have hx2:=zid (tkR zs ee 1) (tkE zs ee 1) 1
  refine zDa (zTy (by omega)) ?_
  refine zaa zga ?_
  refine zua hO ((X v2 (tkE (tkR zs ee 1) (tkE zs ee 1) 1)).length+0) (zqa rfl) rfl (show 0+1 < 40 by omega) (show _=chC ⟨1,zUc (tkR zs ee 1) (tkE zs ee 1) 1,0,slz 0,0⟩ by rw[k1]; rfl) ?_
  intro H hO
  replace hO:St H (X v2 (tkE (tkR zs ee 1) (tkE zs ee 1) 1)++[(p8,⟨chC ⟨1,zUc (tkR zs ee 1) (tkE zs ee 1) 1,0,slz 0,0⟩,true⟩)]):=hO.set_r
  refine zfh hO (zza (zza (zqa (k:=0) rfl))) (rv i2 _ _ _) (by omega) hb2 ?_
  intro H v3 hO i3
  unfold rdN at hO
  rw[List.set_append_left _ _ (by show Γ.length+0 < ((Γ++[_])++zGa v' (chs la)).length; simp),List.set_append_left _ _ (by simp),Go.Ab.set_r] at hO
  have i3:=i2.trans i3
  refine zaa zRh ?_
  refine zaa zSh ?_
  refine zaa zga ?_
  refine zgc hO ((X v3 (tkE (tkR (tkR zs ee 1) (tkE zs ee 1) 1) (tkE (tkR zs ee 1) (tkE zs ee 1) 1) 46)).length+0) (zqa rfl) rfl (show 0+3+36≤40 by omega) rfl ?_
  intro H hO
  replace hO:=hO.set_r
  refine last _ v3 p8 ?_ (by rw[hd]; exact i3)
  rw[hd]; exact hO
 rw[if_neg k1] at hd
 repeat (first|refine oi ?_|refine wn ?_)
 by_cases k2:zUc zs ee 1=2
 ·rw[if_pos k2] at hd
  repeat refine wy ?_
  refine fx (k:=1) (by omega) hb1 (by omega) hO i1 ?_
  intro H v2 hO i2
  have hl2:=zEj hb1 (tkE zs ee 1) 1
  refine zDa (zTy (by omega)) ?_
  refine zaa zga ?_
  refine zua hO ((X v2 (tkE (tkR zs ee 1) (tkE zs ee 1) 1)).length+0) (zqa rfl) rfl (show 0+2 < 40 by omega) (show _=chC ⟨2,0,zUc (tkR zs ee 1) (tkE zs ee 1) 1,slz 0,0⟩ by rw[k2]; rfl) ?_
  intro H hO
  replace hO:=hO.set_r
  refine last _ v2 p8 ?_ (by rw[hd]; exact i2)
  rw[hd]; exact hO
 rw[if_neg k2] at hd
 repeat (first|refine oi ?_|refine wn ?_)
 by_cases k3:zUc zs ee 1=3
 ·rw[if_pos k3] at hd
  repeat refine wy ?_
  refine fx (k:=1) (by omega) hb1 (by omega) hO i1 ?_
  intro H v2 hO i2
  have hl2:=zEj hb1 (tkE zs ee 1) 1
  refine zDa (zTy (by omega)) ?_
  repeat refine oi ?_
  refine zua hO ((X v2 (tkE (tkR zs ee 1) (tkE zs ee 1) 1)).length+0) (zqa rfl) rfl (show 0+2 < 40 by omega) (show _=chC ⟨3,0,(zUc (tkR zs ee 1) (tkE zs ee 1) 1:Int) - 1,slz 0,0⟩ by rw[k3]; rfl) ?_
  intro H hO
  replace hO:=hO.set_r
  refine last _ v2 p8 ?_ (by rw[hd]; exact i2)
  rw[hd]; exact hO
 rw[if_neg k3] at hd
 repeat (first|refine oi ?_|refine wn ?_)
 by_cases k4:zUc zs ee 1=4
 ·rw[if_pos k4] at hd
  repeat refine wy ?_
  refine fx (k:=8) (by omega) hb1 (by omega) hO i1 ?_
  intro H v2 hO i2
  refine zaa zga ?_
  refine zua hO ((X v2 (tkE (tkR zs ee 1) (tkE zs ee 1) 8)).length+0) (zqa rfl) rfl (show 0+39 < 40 by omega) (show _=chC ⟨4,0,0,slz 0,zUc (tkR zs ee 1) (tkE zs ee 1) 8⟩ by rw[k4]; rfl) ?_
  intro H hO
  replace hO:=hO.set_r
  refine last _ v2 p8 ?_ (by rw[hd]; exact i2)
  rw[hd]; exact hO
 rw[if_neg k4] at hd
 repeat refine wn ?_
 refine last _ v1 p8 ?_ (by rw[hd]; exact i1)
 rw[hd]; exact hO
end
end J
set_option linter.unusedSimpArgs false
set_option maxRecDepth 100000
namespace J
open Go Go.Ab
variable{H:Heap}{Γ Γ0 Γ2 Δ G:List (Nat × Blk)}{K:VH}{v w x:Value}{xs ys bs:List Int}{j p:Nat}{e:Int}{d:Dv}{a:Int}{s:List Int}
structure Rl where
 pd:Nat
 pk:Nat
 pw:Nat
 vd:Value
 bud:Int
def kpC(l:List Cell):List Value:=l.flatMap fun c=>by8 c.kept
def wrC(l:List Cell):List Value:=l.map fun c=>int c.wear
def rdv(R:Rl)(d:Dv):List Value:=[sl R.pk 0 d.cells.length 129,sl R.pw 0 d.cells.length 3,int d.most,R.vd,.bool (decide (0≤d.budget)),int R.bud,.bool d.down]
abbrev RW(R:Rl)(d:Dv):List (Nat × Blk):=[(R.pd,⟨rdv R d,true⟩),(R.pk,⟨kpC d.cells,true⟩),(R.pw,⟨wrC d.cells,true⟩)]++zGa R.vd (zkh d.done)
def zef(l:List (Nat × List Int))(i:Nat)(s:List Int):List Int:=l.foldl (fun s x=>if x.1=i then x.2 else s) s
theorem zZt{l:List (Nat × List Int)}{i:Nat}{s:List Int}{x:Nat × List Int}:zef (l++[x]) i s=if x.1=i then x.2 else zef l i s:=by simp[zef]
structure Rok (R:Rl) (d:Dv):Prop where
 o:zrE R.vd d
 s:∀ i,i < d.cells.length→(d.cells.getD i zQa).seen=zef d.done i (d.cells.getD i zQa).kept
 b:0≤d.budget→R.bud=d.budget
 w:∀ c ∈ d.cells,c.wear≤d.most
variable{R:Rl}
theorem znC{l:List Cell}(h:∀ c ∈ l,c.Ok):(kpC l).length=l.length * 64:=zno fun c hc=>by rw[zta]; exact (h c hc).k
theorem zIE(R:Rl)(d:Dv)(h:zrE R.vd d):(rdv R d).all zMd=true:=by
 rcases h with⟨h,_⟩|⟨p,h|h,_⟩
 ·simp[rdv,zMd,zDe,h]
 ·simp[rdv,zMd,zDe,h]
 ·simp[rdv,zMd,zDe,h]
theorem zaO{d:Dv}{a:Int}(ok:∀ c ∈ d.cells,c.Ok)(h:d.has a):((kpC d.cells).drop (a.toNat * 64)).take 64=by8 (d.cell a).kept:=by
 obtain⟨hi,e⟩:=Dv.get h
 have:=zNm (f:=fun c:Cell=>by8 c.kept) (o:=0) (m:=64) (n:=64) (fun c hc=>by rw[zta]; exact (ok c hc).k) hi (by omega)
 unfold kpC
 rw[Nat.add_zero] at this
 rw[this,List.drop_zero,e]
 exact List.take_of_length_le (by rw[zta,(Dv.cellOk ok h).k]; exact Nat.le_refl _)
theorem zOM{d:Dv}{a:Int}(h:d.has a):(wrC d.cells)[a.toNat]?=some (int (d.cell a).wear):=by
 obtain⟨hi,e⟩:=Dv.get h
 unfold wrC
 rw[List.getElem?_map,List.getElem?_eq_getElem hi,e]; rfl
theorem zAh[lp:LpC](hO:St H Γ)(hk:∀ H',St H' Γ→K (sec blank) H'):wCall P zLc [] H K:=by
 apply zyu; unfold zQs
 rw[zcS]
 refine zxa hO ?_
 intro p0 H hO
 refine zaa bS ?_
 refine zxa hO ?_
 intro p1 H hO
 rw[List.append_assoc] at hO
 refine zoa hO (Γ.length+1) (zqa rfl) (by rw[zta]; rfl) (by rw[zta]; rfl) (ztb zeros) ?_
 clear hO
 intro H hO
 replace hO:=hO.set_r
 refine zAn (fun k l' H'=>∃ y:Nat,y≤64∧k=64 - y∧l'=[ptr p0 0,ptr p1 0,int y]∧St H' (Γ++[(p0,⟨by8 zeros,true⟩),(p1,⟨by8 (List.replicate y 255++List.replicate (64 - y) 0),true⟩)])) _ _ ?_ 64 _ _ ⟨0,by omega,rfl,rfl,hO⟩
 clear hO
 rintro k l' H' ⟨y,hy,rfl,rfl,hO⟩
 unfold zLl
 try simp only[zla,zma]
 repeat (first|refine oi ?_|refine ow ?_|refine wy ?_|refine wn ?_|refine wt ?_|refine wf' ?_|refine cy ?_|refine cn ?_)
 refine zja (fun h=>?_) (fun h=>?_)
 ·have hyl:y < 64:=by omega
  refine zaa (zjb (by omega) (by omega)) ?_
  refine zua hO (Γ.length+1) (zqa rfl) rfl (by rw[zta]; simp; omega) (zuD hyl) ?_
  intro H hO
  repeat (first|refine oi ?_|refine ow ?_|refine wy ?_|refine wn ?_|refine wt ?_|refine wf' ?_|refine cy ?_|refine cn ?_)
  exact⟨_,by omega,y+1,by omega,rfl,rfl,hO.set_r⟩
 ·have e:y=64:=by omega
  subst e
  repeat (first|refine oi ?_|refine ow ?_|refine wy ?_|refine wn ?_|refine wt ?_|refine wf' ?_|refine cy ?_|refine cn ?_)
  refine zia hO (Γ.length+1) (zqa rfl) (by rw[zta]; rfl) (by omega) ?_
  refine zoa hO (Γ.length+0) (zqa rfl) (by rw[zta]; rfl) (by rw[zta]; rfl) (ztb _) ?_
  intro H hO
  refine zia hO (Γ.length+0) (by rw[Go.Ab.set_r]; exact zqa rfl) (by rw[zta]; rfl) (by omega) ?_
  exact hk _ (hO.set_r).left
theorem zso{n m:Nat}(h:n≤m)(hk:K (int n) H):wCall P zHf [int n,int m] H K:=by
 apply zPs; unfold zRp
 refine zaa zMa ?_
 refine zja (fun h=>?_) (fun h=>?_)
 ·omega
 refine zaa zkc ?_
 refine zja (fun h=>?_) (fun h=>?_)
 ·omega
 exact hk
theorem zPM:zlc P 99=⟨zzl 64 64 (by8 zeros)⟩:=by kernel_rfl
theorem zQM:zlc P 31=⟨zzl 1 8 [int 0]⟩:=by kernel_rfl
theorem zbO(n pk pw:Nat)(w:Int):(zAa P 102).f [(0,sl pk 0 n 129),(1,sl pw 0 n 3),(2,int w)]=some (agg [sl pk 0 n 129,sl pw 0 n 3,int w,zya,.bool false,int 0,.bool false]):=by kernel_rfl
theorem zqH:zc P 125=int 0::by8 zeros:=by kernel_rfl
theorem zRM(a:Int)(g:Nat→Int):(zAa P 125).f [(0,int a),(1,sec ((List.range 64).map g))]=some (agg (int a::by8 ((List.range 64).map g))):=by kernel_rfl
theorem zSM(a:Int)(h:s.length=64):(zAa P 125).f [(0,int a),(1,sec s)]=some (agg (int a::by8 s)):=by
 obtain⟨g,rfl⟩:=zIt h
 exact zRM a g
theorem zwL(a:Int)(g:Nat→Int)(H:Heap):(zpa P 100 1).f [(0,agg (int a::by8 ((List.range 64).map g)))] H=some (sl H.next 0 1 131,H.push (int a::by8 ((List.range 64).map g))):=by kernel_rfl
theorem zUJ(a:Int)(h:s.length=64)(H:Heap):(zpa P 100 1).f [(0,agg (int a::by8 s))] H=some (sl H.next 0 1 131,H.push (int a::by8 s)):=by
 obtain⟨g,rfl⟩:=zIt h
 exact zwL a g H
theorem zmA(hO:St H Γ)(hj:Γ[j]?=some (R.pd,⟨rdv R d,true⟩))(hk:K (.bool (decide (d.has a))) H):wCall P zbl [ptr R.pd 0,int a] H K:=by
 apply zFB; unfold znD
 refine zaa zMg ?_
 refine zja (fun h=>?_) (fun h=>?_)
 ·refine zaa zfa ?_
  refine zaa zga ?_
  refine zha hO j hj (v:=sl R.pk 0 d.cells.length 129) rfl ?_
  refine zDa zWk ?_
  refine zaa zMa ?_
  refine zaa (zEb h) ?_
  rw[decide_eq_decide.2 (show a < (d.cells.length:Int)↔d.has a from⟨fun h2=>⟨h,h2⟩,fun h2=>h2.2⟩)]
  exact hk
 ·refine zaa (zQb h) ?_
  rw[decide_eq_false (show ¬ d.has a from fun h2=>h h2.1)] at hk
  exact hk
set_option maxHeartbeats 1000000 in
theorem zau(ok:d.Ok)(hd:d.done.length≤1000000)(hR:Rok R d)(hO:St H (Γ++RW R d))(hk:∀ H',St H' (Γ++RW R d)→K (.tuple [sec (d.read a).1,int (d.read a).2].toArray) H'):wCall P zRf [ptr R.pd 0,int a] H K:=by
 apply zvx; unfold zaw
 rw[zcS]
 refine zxa hO ?_
 clear hO
 intro p4 H hO
 refine zmA hO (zza (zqa (k:=0) rfl)) ?_
 refine zaa zyc ?_
 unfold Dv.read at hk
 by_cases h:d.has a
 rotate_left
 ·rw[if_neg h] at hk
  rw[decide_eq_false h]
  refine zdg rfl ?_
  refine zaa bS ?_
  refine zoa hO ((Γ++RW R d).length+0) (zqa rfl) (by rw[zta]; rfl) (by rw[zta]; rfl) (ztb _) ?_
  clear hO
  intro H hO
  replace hO:=hO.set_r
  refine zia hO ((Γ++RW R d).length+0) (zqa rfl) (by rw[zta]; rfl) (by omega) ?_
  exact hk _ hO.left
 rw[if_pos h] at hk
 rw[decide_eq_true h]
 refine zFe rfl ?_
 have hds:∀ x ∈ d.done,x.2.length=64:=fun x hx=>(ok.ds x hx).2
 have hkl:=(Dv.cellOk ok.c h).k
 obtain⟨hi,ei⟩:=Dv.get h
 refine zaa zfa ?_
 refine zaa zga ?_
 refine zha hO (Γ.length+0) (zza (zqa rfl)) (v:=sl R.pk 0 d.cells.length 129) rfl ?_
 refine zaa (zHa h.1 h.2) ?_
 rw[Nat.zero_add]
 refine zBa hO (Γ.length+1) (zza (zqa rfl)) (zaO ok.c h) (by rw[zta]; exact hkl) (by omega) ?_
 refine zxa hO ?_
 clear hO
 intro p6 H hO
 refine zoa hO (_+0) (zqa rfl) (by rw[zta]; rfl) (by rw[zta]; exact hkl) (ztb _) ?_
 clear hO
 intro H hO
 replace hO:=hO.set_r
 refine zaa zfa ?_
 refine zaa zga ?_
 refine zha hO (Γ.length+0) (zza (zza (zqa rfl))) (v:=R.vd) rfl ?_
 refine zDa hR.o.lenSl ?_
 have hll:∀ y,(zef (d.done.take y) a.toNat (d.cell a).kept).length=64:=by
  intro y
  have hq:∀ (l:List (Nat × List Int)) (s:List Int),s.length=64→(∀ x ∈ l,x.2.length=64)→(zef l a.toNat s).length=64:=by
   intro l
   induction l with
   | nil=>exact fun s h _=>h
   | cons x l ih=>
    intro s hs hx
    refine ih _ ?_ (fun y hy=>hx y (List.mem_cons_of_mem _ hy))
    show (if x.1=a.toNat then x.2 else s).length=64
    split
    ·exact hx x List.mem_cons_self
    ·exact hs
  exact hq _ _ hkl (fun x hx=>hds x (List.mem_of_mem_take hx))
 refine zlp (fun k l' H'=>∃ y:Nat,y≤d.done.length∧k=d.done.length - y∧l'=[int a,ptr p4 0,int 0,ptr p6 0,R.vd,int d.done.length,int y]∧St H' (((Γ++RW R d)++[(p4,⟨by8 zeros,true⟩)])++[(p6,⟨by8 (zef (d.done.take y) a.toNat (d.cell a).kept),true⟩)])) _ _ ?_ d.done.length _ _ ⟨0,by omega,rfl,rfl,hO⟩
 clear hO
 rintro k l' H' ⟨y,hy,rfl,rfl,hO⟩
 unfold zio
 try simp only[zla,zma]
 refine zaa zMa ?_
 refine zja (fun h2=>?_) (fun h2=>?_)
 ·have hyl:y < d.done.length:=by omega
  obtain⟨p,c,e1,e2⟩:=zpp hR.o hyl
  have hx:=ok.ds _ (List.getElem_mem hyl)
  have i2:(RW R d)[3]?=some (p,⟨zkh d.done,true⟩):=by
   show ([_,_,_]++zGa R.vd (zkh d.done))[3]?=_
   rw[e2]; rfl
  rw[e1]
  refine zaa (zHa (by omega) (by omega)) ?_
  rw[show 0+((y:Nat):Int).toNat * 65=y * 65 by rw[Int.toNat_natCast]; omega]
  rw[← e1]
  refine zBa hO (Γ.length+3) (zza (zza (zqa i2))) (zew hds hyl) (zhe hx.2) (by omega) ?_
  rw[zqH]
  refine zxa hO ?_
  clear hO
  intro p8 H hO
  refine zoa hO (_+0) (zqa rfl) (by simp[zta,zeros]) (zhe hx.2) (zop _) ?_
  clear hO
  intro H hO
  replace hO:=hO.set_r
  have es:=zZt (l:=d.done.take y) (i:=a.toNat) (s:=(d.cell a).kept) (x:=d.done[y])
  rw[← List.take_succ_eq_append_getElem hyl] at es
  refine zaa zga ?_
  refine zha hO (_+0) (zqa rfl) (v:=int d.done[y].1) rfl ?_
  refine zaa zfb ?_
  refine zja (fun h3=>?_) (fun h3=>?_)
  ·rw[if_pos (by have:=h.1; omega)] at es
   refine zaa zga ?_
   refine zBa hO (_+0) (zqa rfl) (show ((chg d.done[y]).drop 1).take 64=by8 d.done[y].2 from ?_) (by rw[zta]; exact hx.2) (by omega) ?_
   ·show (by8 d.done[y].2).take 64=_
    exact List.take_of_length_le (by rw[zta,hx.2]; exact Nat.le_refl _)
   refine zoa hO (((Γ++RW R d)++[(p4,(⟨by8 zeros,true⟩:Blk))]).length+0) (zza (zqa rfl)) (by rw[zta]; exact hll y) (by rw[zta]; exact hx.2) (ztb _) ?_
   clear hO
   intro H hO
   rw[List.set_append_left _ _ (by simp),Go.Ab.set_r] at hO
   repeat (first|refine oi ?_|refine ow ?_|refine wy ?_|refine wn ?_|refine wt ?_|refine wf' ?_|refine cy ?_|refine cn ?_)
   refine⟨_,by omega,y+1,by omega,rfl,rfl,?_⟩
   rw[es]
   exact hO.left
  ·rw[if_neg (by have:=h.1; omega)] at es
   repeat (first|refine oi ?_|refine ow ?_|refine wy ?_|refine wn ?_|refine wt ?_|refine wf' ?_|refine cy ?_|refine cn ?_)
   refine⟨_,by omega,y+1,by omega,rfl,rfl,?_⟩
   rw[es]
   exact hO.left
 ·have ey:y=d.done.length:=by omega
  subst ey
  rw[List.take_length] at hO
  have hse:(d.cell a).seen=zef d.done a.toNat (d.cell a).kept:=hR.s _ hi
  have hl2:=hll d.done.length
  rw[List.take_length] at hl2
  rw[← hse] at hO hl2
  refine zgb rfl ?_
  try simp only[zla,zma]
  refine zia hO (_+0) (zqa rfl) (by rw[zta]; exact hl2) (by omega) ?_
  refine zoa hO ((Γ++RW R d).length+0) (zza (zqa rfl)) (by rw[zta]; rfl) (by rw[zta]; exact hl2) (ztb _) ?_
  clear hO
  intro H hO
  rw[List.set_append_left _ _ (by simp),Go.Ab.set_r] at hO
  refine zia hO ((Γ++RW R d).length+0) (zza (zqa rfl)) (by rw[zta]; exact hl2) (by omega) ?_
  exact hk _ hO.left.left
end J
set_option maxRecDepth 100000
namespace J
open Go Go.Ab
variable{H:Heap}{Γ Γ0 Γ2 Δ G:List (Nat × Blk)}{K:VH}{v w x:Value}{xs ys bs:List Int}{j p:Nat}{e:Int}{d:Dv}{a:Int}{s:List Int}{R:Rl}
theorem zLD{d:Dv}{a:Int}{s:List Int}(h:d.has a):kpC (d.cells.set a.toNat { d.cell a with seen:=s })=kpC d.cells:=by
 obtain⟨hi,e⟩:=Dv.get h
 have hm:∀ (l:List Cell) (f:Cell→List Value),l.flatMap f=(l.map f).flatten:=fun l f=>List.flatMap_def ..
 unfold kpC
 rw[hm,hm,List.map_set]
 congr 1
 apply List.ext_getElem?
 intro i
 rw[List.getElem?_set]
 split
 ·rename_i hh
  subst hh
  rw[if_pos (by simpa using hi),List.getElem?_map,List.getElem?_eq_getElem hi,e]; rfl
 ·rfl
theorem zMD{d:Dv}{a:Int}{s:List Int}(h:d.has a):wrC (d.cells.set a.toNat { d.cell a with seen:=s })=wrC d.cells:=by
 obtain⟨hi,e⟩:=Dv.get h
 unfold wrC
 rw[List.map_set]
 apply List.ext_getElem?
 intro i
 rw[List.getElem?_set]
 split
 ·rename_i hh
  subst hh
  rw[if_pos (by simpa using hi),List.getElem?_map,List.getElem?_eq_getElem hi,e]; rfl
 ·rfl
def Rl.spent(R:Rl)(d:Dv):Rl:={ R with bud:=if 0 < d.budget then d.budget - 1 else R.bud }
theorem Rok.step(h:Rok R d)(hd:d.down=false):Rok (R.spent d) d.step:=by
 refine⟨h.o,h.s,?_,h.w⟩
 intro hb
 have h1:=h.b
 unfold Dv.step at hb ⊢
 unfold Rl.spent
 simp only[hd,Bool.false_eq_true,false_or] at hb ⊢
 by_cases h0:0 < d.budget
 ·rw[if_pos h0,if_pos ⟨by omega,h0⟩]
 ·rw[if_neg h0,if_neg (fun h=>h0 h.2)]
  rw[if_neg (fun h=>h0 h.2)] at hb
  exact h1 hb
theorem zLk(hdn:d.down=false)(hb:-1≤d.budget∧d.budget≤9223372036854775807)(hR:Rok R d)(hO:St H (Γ++RW R d))(hk:∀ H',St H' (Γ++RW (R.spent d) d.step)→K (.bool !d.step.down) H'):wCall P zSe [ptr R.pd 0] H K:=by
 apply zRu; unfold zrt
 have hbud:=hR.b
 obtain⟨cells,done,most,budget,down⟩:=d
 subst hdn
 simp only at hbud hb
 refine zwa (fun l' H'=>l'=[ptr R.pd 0,.bool (decide (budget=0))]∧H'=H) ?_ ?_
 ·refine zaa zfa ?_
  refine zaa zga ?_
  refine zha hO (Γ.length+0) (zqa rfl) (v:=.bool (decide (0≤budget))) rfl ?_
  refine zja (fun h=>?_) (fun h=>?_)
  ·refine zaa zfa ?_
   refine zaa zga ?_
   refine zha hO (Γ.length+0) (zqa rfl) (v:=int R.bud) rfl ?_
   refine zaa zfb ?_
   refine zaa (zEb h) ?_
   rw[hbud h]
   exact⟨rfl,rfl⟩
  ·refine zaa (zQb h) ?_
   rw[decide_eq_false (show ¬ budget=0 by omega)]
   exact⟨rfl,rfl⟩
 rintro l' H' ⟨rfl,rfl⟩
 try simp only[zla,zma]
 refine zja (fun h=>?_) (fun h=>?_)
 ·subst h
  refine zaa zfa ?_
  refine zaa zga ?_
  refine zua hO (Γ.length+0) (zqa rfl) rfl (show 6 < 7 by omega) rfl ?_
  clear hO
  intro H hO
  replace hO:=hO.set_r
  exact hk H hO
 ·refine zaa zfa ?_
  refine zaa zga ?_
  refine zha hO (Γ.length+0) (zqa rfl) (v:=.bool (decide (0≤budget))) rfl ?_
  have e1:(Dv.step ⟨cells,done,most,budget,false⟩)=⟨cells,done,most,if 0 < budget then budget - 1 else budget,false⟩:=by
   unfold Dv.step
   simp only[Bool.false_or,Bool.false_eq_true,false_or]
   rw[decide_eq_false h]
   by_cases h0:0 < budget
   ·rw[if_pos h0,if_pos ⟨h,h0⟩]
   ·rw[if_neg h0,if_neg (fun h=>h0 h.2)]
  rw[e1] at hk
  refine zja (fun h2=>?_) (fun h2=>?_)
  ·have h0:0 < budget:=by omega
   rw[if_pos h0] at hk
   refine zaa zfa ?_
   refine zaa zga ?_
   refine zha hO (Γ.length+0) (zqa rfl) (v:=int R.bud) rfl ?_
   rw[hbud h2]
   refine zaa (zae (by omega) (by omega)) ?_
   refine zaa zfa ?_
   refine zaa zga ?_
   refine zua hO (Γ.length+0) (zqa rfl) rfl (show 5 < 7 by omega) rfl ?_
   clear hO
   intro H hO
   replace hO:=hO.set_r
   have:=hk H
   refine this ?_
   have e2:rdv (R.spent ⟨cells,done,most,budget,false⟩) ⟨cells,done,most,budget - 1,false⟩=[sl R.pk 0 cells.length 129,sl R.pw 0 cells.length 3,int most,R.vd,.bool (decide (0≤budget)),int (budget - 1),.bool false]:=by
    unfold rdv Rl.spent
    simp only
    rw[if_pos h0,decide_eq_decide.2 (show (0:Int)≤budget - 1↔0≤budget by omega)]
   show St H (Γ++([(R.pd,⟨rdv (R.spent ⟨cells,done,most,budget,false⟩) ⟨cells,done,most,budget - 1,false⟩,true⟩),_,_]++_))
   rw[e2]
   exact hO
  ·have h0:¬ 0 < budget:=by omega
   rw[if_neg h0] at hk
   have:=hk H'
   refine this ?_
   unfold Rl.spent
   simp only
   rw[if_neg h0]
   exact hO
theorem zVJ{d:Dv}{a:Int}{s:List Int}(h:d.has a)(hs:∀ i,i < d.cells.length→(d.cells.getD i zQa).seen=zef d.done i (d.cells.getD i zQa).kept) :
  ∀ i,i < (d.put a s).cells.length→((d.put a s).cells.getD i zQa).seen=zef (d.put a s).done i ((d.put a s).cells.getD i zQa).kept:=by
 obtain⟨hi,e⟩:=Dv.get h
 intro i hil
 have hl:i < d.cells.length:=by simpa [Dv.put] using hil
 show ((d.cells.set a.toNat { d.cell a with seen:=s }).getD i zQa).seen=zef (d.done++[(a.toNat,s)]) i _
 rw[zZt]
 rw[List.getD_eq_getElem?_getD,List.getElem?_set]
 by_cases hx:a.toNat=i
 ·rw[if_pos hx,if_pos hi,if_pos hx]; rfl
 ·rw[if_neg hx,if_neg hx]
  rw[← List.getD_eq_getElem?_getD,hs i hl]
  show _=zef d.done i ((d.cells.set a.toNat { d.cell a with seen:=s }).getD i zQa).kept
  rw[List.getD_eq_getElem?_getD (l:=d.cells.set _ _),List.getElem?_set,if_neg hx,← List.getD_eq_getElem?_getD]
theorem zWJ{d:Dv}{a:Int}{s:List Int}(ok:∀ c ∈ d.cells,c.wear≤d.most)(h:d.has a):∀ c ∈ (d.put a s).cells,c.wear≤(d.put a s).most:=by
 obtain⟨hi,e⟩:=Dv.get h
 intro c hc
 rcases List.mem_or_eq_of_mem_set hc with hc|rfl
 ·exact ok c hc
 ·show (d.cell a).wear≤d.most
  rw[← e]; exact ok _ (List.getElem_mem hi)
theorem zND(h:d.has a)(hs:s.length=64)(hd:d.done.length≤1000000)(hR:Rok R d)(hO:St H (Γ++RW R d)){q:Nat}
  (hO':St H ((Γ++RW R d)++[(q,⟨int a::by8 s,true⟩)]))
  (hk:∀ H' vd' ,Own 65 vd' (d.put a s).done.length (zkh (d.put a s).done)→(∃ a1 n1 c1,vd'=.slice a1 n1 c1) →
   St H' (Γ++([(R.pd,⟨rdv R d,true⟩),(R.pk,⟨kpC d.cells,true⟩),(R.pw,⟨wrC d.cells,true⟩)]++zGa vd' (zkh (d.put a s).done)))→K vd' H'):opW (zva 65 72 R.vd (sl q 0 1 131) H) K:=by
 have hO2:St H (((Γ++[(R.pd,⟨rdv R d,true⟩),(R.pk,⟨kpC d.cells,true⟩),(R.pw,⟨wrC d.cells,true⟩)])++zGa R.vd (zkh d.done))++[(q,⟨int a::by8 s,true⟩)]):=by
  rw[List.append_assoc Γ]; exact hO'
 have ha:a=((a.toNat:Nat):Int):=by have:=h.1; omega
 have ec:zkh d.done++(int a::by8 s)=zkh (d.put a s).done:=by
  show _=(d.done++[(a.toNat,s)]).flatMap chg
  rw[List.flatMap_append]
  show _=d.done.flatMap chg++(int ((a.toNat:Nat):Int)::by8 s++[])
  rw[← ha,List.append_nil]; rfl
 refine zSc hO2 hR.o (by simp[zta,hs]) (by omega) (by simp[by8,oneCell]) (by omega) (by omega) ?_
 intro vd' H hO hv'
 rw[List.append_assoc,ec] at hO
 rw[ec] at hv'
 refine hk H vd' ?_ ?_ hO
 ·show Own 65 vd' (d.done++[(a.toNat,s)]).length _
  rw[List.length_append]
  exact hv'
 ·rcases hv' with⟨_,h,_⟩|⟨p,rfl|rfl,_⟩
  ·omega
  ·exact⟨_,_,_,rfl⟩
  ·exact⟨_,_,_,rfl⟩
set_option maxHeartbeats 1000000 in
theorem zev(ok:d.Ok)(hs:s.length=64)(hd:d.done.length≤1000000)(hR:Rok R d)(hO:St H (Γ++RW R d))
  (hk:∀ H' R',St H' (Γ++RW R' (d.program a s).1)→R'.pd=R.pd→Rok R' (d.program a s).1→K (int (d.program a s).2) H'):wCall P zRg [ptr R.pd 0,int a,sec s] H K:=by
 apply zjr; unfold zko
 unfold Dv.program at hk
 refine zxa hO ?_
 clear hO
 intro p5 H hO
 replace hO:St H ((Γ++[(p5,⟨by8 s,true⟩)])++RW R d):=St.rot hO
 have i5:(Γ++[(p5,(⟨by8 s,true⟩:Blk))])[Γ.length+0]?=some (p5,⟨by8 s,true⟩):=zqa rfl
 have fin:∀ {H:Heap} {Δ:List (Nat × Blk)},St H ((Γ++[(p5,⟨by8 s,true⟩)])++Δ)→St H (Γ++Δ):=fun h=>St.mid h
 generalize Γ++[(p5,(⟨by8 s,true⟩:Blk))]=Γ' at hO i5 fin
 refine zau ok hd hR hO ?_
 clear hO
 intro H hO
 refine zaa zRh ?_
 refine zaa zSh ?_
 have hrl:=Dv.read_len ok (a:=a)
 rw[zcS]
 refine zxa hO ?_
 clear hO
 intro p7 H hO
 refine zoa hO (_+0) (zqa rfl) (by rw[zta]; rfl) (by rw[zta]; exact hrl) (ztb _) ?_
 clear hO
 intro H hO
 replace hO:=hO.set_r
 refine zaa zKa ?_
 by_cases h:d.has a
 rotate_left
 ·have e1:(d.read a).2=61:=by unfold Dv.read; rw[if_neg h]
  rw[if_pos h] at hk
  rw[e1]
  refine zdg rfl ?_
  exact hk _ R (fin hO.left) rfl hR
 have e1:d.read a=((d.cell a).seen,0):=by unfold Dv.read; rw[if_pos h]
 rw[if_neg (fun h'=>h' h)] at hk
 rw[e1] at hO hrl ⊢
 refine zFe rfl ?_
 refine zaa zfa ?_
 refine zaa zga ?_
 refine zha hO (Γ'.length+0) (zza (zqa rfl)) (v:=.bool d.down) rfl ?_
 refine zLb (fun hb=>?_) (fun hb=>?_)
 ·rw[if_pos hb] at hk
  exact hk _ R (fin hO.left) rfl hR
 rw[if_neg (by rw[hb]; simp)] at hk
 refine zia hO (_+0) (zqa rfl) (by rw[zta]; exact hrl) (by omega) ?_
 refine zAh hO ?_
 intro H2 hO2
 refine⟨zmb hO (_+0) (zqa rfl) hO2 (_+0) (zqa rfl) (zHg _),?_⟩
 refine zaa (neS _ (Dv.cellOk ok.c h).s rfl) ?_
 clear hO
 refine zja (fun h1=>?_) (fun h1=>?_)
 ·rw[if_pos h1] at hk
  exact hk _ R (fin hO2.left) rfl hR
 rw[if_neg h1] at hk
 have hO:=hO2.left
 clear hO2
 refine zLk hb ok.b hR hO ?_
 clear hO
 intro H hO
 refine zaa zyc ?_
 rw[Bool.not_not]
 have hR2:=hR.step hb
 refine zLb (fun h2=>?_) (fun h2=>?_)
 ·rw[if_pos h2] at hk
  exact hk _ _ (fin hO) rfl hR2
 rw[if_neg (by rw[h2]; simp)] at hk
 refine zaa zfa ?_
 refine zaa zga ?_
 refine zha hO (Γ'.length+0) (zqa rfl) (v:=R.vd) rfl ?_
 refine zia hO (Γ.length+0) (zza i5) (by rw[zta]; exact hs) (by omega) ?_
 refine zaa (zSM a hs) ?_
 have hO3:=hO
 refine zEa hO (zUJ a hs _) ?_
 clear hO hO3
 intro q H hO
 refine zND (R:=R.spent d) (d:=d.step) (a:=a) (s:=s) h hs hd hR2 hO.left hO ?_
 clear hO
 rintro H vd' hv' ⟨a1,n1,c1,e3⟩ hO
 refine zaa zfa ?_
 refine zaa zga ?_
 refine zua hO (Γ'.length+0) (zqa rfl) (by rw[e3]; rfl) (show 3 < 7 by omega) rfl ?_
 clear hO
 intro H hO
 replace hO:=hO.set_r
 refine hk H { R.spent d with vd:=vd' } ?_ rfl ⟨hv',zVJ h hR2.s,hR2.b,zWJ hR2.w h⟩
 have e4:kpC (d.step.put a s).cells=kpC d.step.cells:=zLD (d:=d.step) h
 have e5:wrC (d.step.put a s).cells=wrC d.step.cells:=zMD (d:=d.step) h
 have e6:rdv { R.spent d with vd:=vd' } (d.step.put a s)=[sl R.pk 0 d.cells.length 129,sl R.pw 0 d.cells.length 3,int d.most,vd',.bool (decide (0≤d.step.budget)),int (R.spent d).bud,.bool d.step.down]:=by
  unfold rdv
  show [sl R.pk 0 (d.step.cells.set _ _).length 129,sl R.pw 0 (d.step.cells.set _ _).length 3,_,_,_,_,_]=_
  rw[List.length_set]; rfl
 show St H (Γ++([(R.pd,⟨rdv { R.spent d with vd:=vd' } (d.step.put a s),true⟩),(R.pk,⟨kpC (d.step.put a s).cells,true⟩),(R.pw,⟨wrC (d.step.put a s).cells,true⟩)]++zGa vd' (zkh (d.step.put a s).done)))
 rw[e4,e5,e6]
 exact fin hO
set_option maxHeartbeats 1000000 in
theorem zJE{n w:Nat}(hn:n≤4096)(hw:w≤100000)(hO:St H Γ)(hk:∀ H' R,St H' (Γ++RW R (Dv.new n w))→Rok R (Dv.new n w)→K (ptr R.pd 0) H'):wCall P zKi [int n,int w] H K:=by
 apply zYy; unfold zXy
 refine zso hn ?_
 rw[zPM,zQM]
 refine zwB (k:=.i64) (k':=.i64) hO (by omega) (by omega) ?_
 clear hO
 intro pk H hO
 refine zwB (k:=.i64) (k':=.i64) hO (by omega) (by omega) ?_
 clear hO
 intro pw H hO
 refine zso hw ?_
 refine⟨Nat.beq_refl _,?_⟩
 refine zaa (zbO n pk pw w) ?_
 refine zxa hO ?_
 clear hO
 intro pd H hO
 refine zaa zfa ?_
 refine zaa zga ?_
 refine zha hO (_+0) (zqa rfl) (v:=sl pk 0 n 129) rfl ?_
 refine zDa zWk ?_
 have e1:repl n (by8 zeros)=(List.replicate n zeros).flatMap by8:=zzk by8 zeros n
 have e2:repl n [int 0]=List.replicate n (int 0):=by rw[zVk]
 rw[e1,e2] at hO
 replace hO:St H ((Γ++[(pd,⟨[sl pk 0 n 129,sl pw 0 n 3,int w,zya,.bool false,int 0,.bool false],true⟩),(pw,⟨List.replicate n (int 0),true⟩)])++[(pk,⟨(List.replicate n zeros).flatMap by8,true⟩)]):=hO.perm (by
  rw[List.append_assoc,List.append_assoc,List.append_assoc]
  refine List.Perm.append_left Γ ?_
  refine List.Perm.trans List.perm_append_comm ?_
  rw[List.append_assoc]
  show ([(pw,_)]++[(pd,_)]++[(pk,_)]).Perm ([(pd,_),(pw,_)]++[(pk,_)])
  exact List.Perm.append_right _ (List.Perm.swap _ _ _))
 refine zRq (fun k l' H'=>∃ y:Nat,y≤n∧k=n - y∧l'=[.pointer none,ptr pd 0,int n,int y]∧St H' ((Γ++[(pd,⟨[sl pk 0 n 129,sl pw 0 n 3,int w,zya,.bool false,int 0,.bool false],true⟩),(pw,⟨List.replicate n (int 0),true⟩)])++[(pk,⟨(List.replicate y blank++List.replicate (n - y) zeros).flatMap by8,true⟩)])) _ _ ?_ n _ _ ⟨0,by omega,rfl,rfl,hO⟩
 clear hO
 rintro k l' H' ⟨y,hy,rfl,rfl,hO⟩
 unfold zPp
 try simp only[zla,zma]
 refine zaa zMa ?_
 refine zja (fun h=>?_) (fun h=>?_)
 ·have hyl:y < n:=by omega
  generalize hC:List.replicate y blank++List.replicate (n - y) zeros=C at *
  have hCl:C.length=n:=by rw[← hC]; simp; omega
  have okC:∀ c ∈ C,(by8 c).length=64:=by
   intro c hc
   rw[← hC] at hc
   rw[zta]
   rcases List.mem_append.1 hc with hc|hc
   ·rw[(List.mem_replicate.1 hc).2]; rfl
   ·rw[(List.mem_replicate.1 hc).2]; rfl
  refine zaa zfa ?_
  refine zaa zga ?_
  refine zha hO (Γ.length+0) (zza (zqa rfl)) (v:=sl pk 0 n 129) rfl ?_
  refine zAh hO ?_
  intro H2 hO2
  refine⟨zmb hO (Γ.length+0) (zza (zqa rfl)) hO2 (Γ.length+0) (zza (zqa rfl)) rfl,?_⟩
  clear hO
  refine zaa (zHa (by omega) (by omega)) ?_
  have hcl:(C.flatMap by8).length=n * 64:=by rw[zno okC,hCl]
  have hcy:=zel (f:=by8) (l:=C) (i:=y) (o:=0) (y:=blank) (new:=by8 blank) okC (by omega) (by rw[zta]; decide) (by rw[List.drop_of_length_le (by rw[okC _ (List.getElem_mem _)]; decide)]; simp)
  rw[zta] at hcy
  refine zgc hO2 (_+0) (zqa rfl) (show (by8 blank).length=64 by rw[zta]; rfl) (by rw[hcl,Int.toNat_natCast]; omega) (ztb _) ?_
  clear hO2
  intro H hO
  replace hO:=hO.set_r
  repeat (first|refine oi ?_|refine ow ?_|refine wy ?_|refine wn ?_|refine wt ?_|refine wf' ?_|refine cy ?_|refine cn ?_)
  refine⟨_,by omega,y+1,by omega,rfl,rfl,?_⟩
  have e3:0+(y:Int).toNat * 64=y * 64+0:=by rw[Int.toNat_natCast]; omega
  have e4:C.set y blank=List.replicate (y+1) blank++List.replicate (n - (y+1)) zeros:=by
   rw[← hC,List.set_append_right _ _ (by simp),List.length_replicate,Nat.sub_self,show n - y=(n - (y+1))+1 by omega,List.replicate_succ,List.set_cons_zero,List.replicate_succ']
   simp
  rw[e3] at hO
  rw[← e4,← hcy]
  exact hO
 ·have ey:y=n:=by omega
  subst ey
  rw[Nat.sub_self,List.replicate_zero,List.append_nil] at hO
  refine zgb rfl ?_
  try simp only[zla,zma]
  have e3:(List.replicate y blank).flatMap by8=kpC (Dv.new y w).cells:=(zzk by8 blank y).symm.trans (zzk (fun c:Cell=>by8 c.kept) zlf y)
  have e4:List.replicate y (int 0)=wrC (Dv.new y w).cells:=by
   show _=(List.replicate y zlf).map _
   rw[List.map_replicate]; rfl
  rw[e3,e4] at hO
  refine hk _ ⟨pd,pk,pw,zya,0⟩ ?_ ?_
  ·have e5:rdv ⟨pd,pk,pw,zya,0⟩ (Dv.new y w)=[sl pk 0 y 129,sl pw 0 y 3,int w,zya,.bool false,int 0,.bool false]:=by
    unfold rdv
    show [sl pk 0 (List.replicate y zlf).length 129,sl pw 0 (List.replicate y zlf).length 3,_,_,_,_,_]=_
    rw[List.length_replicate]; rfl
   show St _ (Γ++([(pd,⟨rdv ⟨pd,pk,pw,zya,0⟩ (Dv.new y w),true⟩),(pk,⟨kpC (Dv.new y w).cells,true⟩),(pw,⟨wrC (Dv.new y w).cells,true⟩)]++[]))
   rw[e5,List.append_nil]
   exact hO.perm (by
    rw[List.append_assoc]
    exact List.Perm.append_left Γ (List.Perm.cons _ (List.Perm.swap _ _ _)))
  ·refine⟨.inl ⟨rfl,rfl,rfl⟩,?_,fun h=>absurd h (show ¬ (0:Int)≤-1 by omega),?_⟩
   ·intro i hi
    have hi:i < y:=by simpa [Dv.new] using hi
    show ((List.replicate y zlf).getD i zQa).seen=((List.replicate y zlf).getD i zQa).kept
    rw[List.getD_eq_getElem?_getD,List.getElem?_replicate,if_pos hi]; rfl
   ·intro c hc
    rw[(List.mem_replicate.1 hc).2]
    show (0:Int)≤w
    omega
end J
set_option maxRecDepth 100000
namespace J
open Go Go.Ab
variable{H:Heap}{Γ Γ0 Γ2 Δ G:List (Nat × Blk)}{K:VH}{v w x:Value}{xs ys bs:List Int}{j p:Nat}{e:Int}{d:Dv}{a:Int}{s:List Int}{R:Rl}{m:Mp}{part pos:Int}
structure Rm where
 pm:Nat
 ps:Nat
 vo:Value
 r:Rl
def szC(m:Mp):List Value:=m.spans.map fun x=>int x.2
def rmv(M:Rm)(m:Mp):List Value:=[ptr M.r.pd 0,sl M.ps 0 m.spans.length 3,int m.who,M.vo]
abbrev RMa(M:Rm)(m:Mp):List (Nat × Blk):=[(M.pm,⟨rmv M m,true⟩),(M.ps,⟨szC m,true⟩)]
abbrev RM(M:Rm)(m:Mp):List (Nat × Blk):=RMa M m++(zGa M.vo (zwi m.ops)++RW M.r m.d)
structure RMok (M:Rm) (m:Mp):Prop where
 r:Rok M.r m.d
 o:Own 4 M.vo m.ops.length (zwi m.ops)
 s:m.spans=spansFrom 0 (m.spans.map (·.2))
variable{M:Rm}
theorem RM.toD(h:St H (Γ++RM M m)):St H (((Γ++RMa M m)++zGa M.vo (zwi m.ops))++RW M.r m.d):=by
 rw[List.append_assoc,List.append_assoc]; exact h
theorem RM.ofD(h:St H (((Γ++RMa M m)++zGa M.vo (zwi m.ops))++RW M.r m.d)):St H (Γ++RM M m):=by
 rw[List.append_assoc,List.append_assoc] at h; exact h
theorem zoC(h:m.has part):(szC m)[part.toNat]?=some (int (m.span part).2):=by
 have hi:part.toNat < m.spans.length:=by have:=h.1; have:=h.2; omega
 unfold szC Mp.span
 rw[List.getElem?_map,List.getD_eq_getElem?_getD,List.getElem?_eq_getElem hi]; rfl
theorem zto:∀ (l:List Nat) (n i:Nat),i < l.length→((spansFrom n l).getD i (0,0)).1=n+(l.take i).sum
 | [],_,_,h=>absurd h (Nat.not_lt_zero _)
 | x::l,n,0,_=>rfl
 | x::l,n,i+1,h=>by
  have:=zto l (n+x) i (by simpa using h)
  show ((spansFrom (n+x) l).getD i (0,0)).1=n+(x+(l.take i).sum)
  rw[this]; omega
theorem zrH(hs:m.spans=spansFrom 0 (m.spans.map (·.2)))(h:m.has part):(m.span part).1=((m.spans.map (·.2)).take part.toNat).sum:=by
 have hi:part.toNat < m.spans.length:=by have:=h.1; have:=h.2; omega
 have h1:=zto (m.spans.map (·.2)) 0 part.toNat (by rw[List.length_map]; exact hi)
 rw[← hs,Nat.zero_add] at h1
 exact h1
set_option maxHeartbeats 1000000 in
theorem zMk(ok:m.Ok)(hM:RMok M m)(hO:St H (Γ++RM M m))(hk:K (.tuple [int (m.place part pos).1,int (m.place part pos).2].toArray) H):wCall P zFd [ptr M.pm 0,int part,int pos] H K:=by
 apply zSu; unfold zut
 unfold Mp.place at hk
 refine zwa (fun l' H'=>l'=[ptr M.pm 0,int part,int pos,int 0,int 0,.bool (decide (¬ m.has part))]∧H'=H) ?_ ?_
 ·refine zaa zMa ?_
  refine zja (fun h=>?_) (fun h=>?_)
  ·refine zaa (zEb h) ?_
   rw[decide_eq_true (show ¬ m.has part from fun h2=>by have:=h2.1; omega)]
   exact⟨rfl,rfl⟩
  ·refine zaa zfa ?_
   refine zaa zga ?_
   refine zha hO (Γ.length+0) (zqa rfl) (v:=sl M.ps 0 m.spans.length 3) rfl ?_
   refine zDa zWk ?_
   refine zaa zMg ?_
   refine zaa (zQb h) ?_
   rw[decide_eq_decide.2 (show (m.spans.length:Int)≤part↔¬ m.has part from⟨fun h2 h3=>by have:=h3.2; omega,fun h2=>by
    by_cases h4:part < (m.spans.length:Int)
    ·exact absurd ⟨by omega,h4⟩ h2
    ·omega⟩)]
   exact⟨rfl,rfl⟩
 rintro l' H' ⟨rfl,rfl⟩
 try simp only[zla,zma]
 by_cases h:m.has part
 rotate_left
 ·rw[decide_eq_true h]
  rw[if_pos h] at hk
  exact zdg rfl hk
 rw[decide_eq_false (fun h2=>h2 h)]
 rw[if_neg (fun h2=>h2 h)] at hk
 refine zFe rfl ?_
 refine zwa (fun l' H''=>l'=[ptr M.pm 0,int part,int pos,int 0,int 0,.bool (decide (pos < 0∨((m.span part).2:Int)≤pos))]∧H''=H') ?_ ?_
 ·refine zaa zMa ?_
  refine zja (fun h9=>?_) (fun h9=>?_)
  ·refine zaa (zEb h9) ?_
   rw[decide_eq_true (.inl h9)]
   exact⟨rfl,rfl⟩
  ·refine zaa zfa ?_
   refine zaa zga ?_
   refine zha hO (Γ.length+0) (zqa rfl) (v:=sl M.ps 0 m.spans.length 3) rfl ?_
   refine zaa (zHa h.1 h.2) ?_
   refine zha hO (Γ.length+1) (zqa rfl) (v:=int (m.span part).2) (by rw[Nat.zero_add,Nat.mul_one]; exact zoC h) ?_
   refine zaa zMg ?_
   refine zaa (zQb h9) ?_
   rw[decide_eq_decide.2 (show ((m.span part).2:Int)≤pos↔(pos < 0∨((m.span part).2:Int)≤pos) by omega)]
   exact⟨rfl,rfl⟩
 rintro l' H'' ⟨rfl,rfl⟩
 try simp only[zla,zma]
 refine zja (fun h1=>?_) (fun h1=>?_)
 ·rw[if_pos h1] at hk
  exact hk
 rw[if_neg h1] at hk
 have hsp:=ok.s _ (Mp.span_mem h)
 have hn:=ok.d.n
 have hsf:=zrH hM.s h
 refine zgo (fun k l' H1=>∃ y:Nat,y≤part.toNat∧k=part.toNat - y∧l'=[ptr M.pm 0,int part,int 0,int 0,int (pos+(((m.spans.map (·.2)).take y).sum:Nat)),int y]∧H1=H'') _ _ ?_ part.toNat _ _ ⟨0,by omega,rfl,by simp,rfl⟩
 rintro k l' H1 ⟨y,hy,rfl,rfl,rfl⟩
 unfold zgm
 try simp only[zla,zma]
 refine zaa zMa ?_
 refine zja (fun h2=>?_) (fun h2=>?_)
 ·have hyl:y < part.toNat:=by omega
  have hh2:=h.2
  have hh16:=ok.n
  have hyh:m.has (y:Int):=⟨by omega,by have:=h.2; omega⟩
  have hyl2:y < m.spans.length:=by have:=h.2; omega
  have hss:=zpo (m.spans.map (·.2)) y (by simpa using hyl2)
  have hle:((m.spans.map (·.2)).take (y+1)).sum≤((m.spans.map (·.2)).take part.toNat).sum:=by
   have:=zij ((m.spans.map (·.2)).take part.toNat) (y+1)
   rw[List.take_take,Nat.min_eq_left (by omega)] at this
   exact this
  have hsz:(m.span (y:Int)).2=(m.spans.map (·.2))[y]'(by simpa using hyl2):=by
   unfold Mp.span
   rw[Int.toNat_natCast,List.getD_eq_getElem?_getD,List.getElem?_eq_getElem hyl2]; simp
  refine zaa zfa ?_
  refine zaa zga ?_
  refine zha hO (Γ.length+0) (zqa rfl) (v:=sl M.ps 0 m.spans.length 3) rfl ?_
  refine zaa (zHa hyh.1 hyh.2) ?_
  refine zha hO (Γ.length+1) (zqa rfl) (v:=int (m.span (y:Int)).2) (by rw[Nat.zero_add,Nat.mul_one]; exact zoC hyh) ?_
  rw[hsz]
  refine zaa (zxb (by omega) (by omega)) ?_
  repeat (first|refine oi ?_|refine ow ?_|refine wy ?_|refine wn ?_|refine wt ?_|refine wf' ?_|refine cy ?_|refine cn ?_)
  refine⟨_,by omega,y+1,by omega,rfl,?_,rfl⟩
  rw[hss,Int.natCast_add,← Int.add_assoc]
  rfl
 ·have ey:y=part.toNat:=by omega
  subst ey
  refine zgb rfl ?_
  try simp only[zla,zma]
  rw[hsf] at hk
  rw[Int.add_comm pos]
  exact hk
theorem zbu(ok:m.Ok)(hd:m.Sm 1000000)(hM:RMok M m)(hO:St H (Γ++RM M m))(hk:∀ H',St H' (Γ++RM M m)→K (.tuple [sec (m.read part pos).1,int (m.read part pos).2].toArray) H'):wCall P zvh [ptr M.pm 0,int part,int pos] H K:=by
 apply zsx; unfold zXv
 rw[zcS]
 refine zxa hO ?_
 clear hO
 intro p6 H hO
 replace hO:=hO.rot
 have i6:(Γ++[(p6,(⟨by8 zeros,true⟩:Blk))])[Γ.length+0]?=some (p6,⟨by8 zeros,true⟩):=zqa rfl
 refine zMk ok hM hO ?_
 refine zaa zRh ?_
 refine zaa zSh ?_
 refine zaa zKa ?_
 unfold Mp.read at hk
 refine zja (fun h=>?_) (fun h=>?_)
 ·rw[if_pos h] at hk
  refine zaa bS ?_
  refine zoa hO (Γ.length+0) (zza i6) (by rw[zta]; rfl) (by rw[zta]; rfl) (ztb _) ?_
  clear hO
  intro H hO
  rw[List.set_append_left _ _ (by simp),Go.Ab.set_r] at hO
  refine zia hO (Γ.length+0) (zza (zqa rfl)) (by rw[zta]; rfl) (by omega) ?_
  exact hk _ (St.mid hO)
 ·rw[if_neg h] at hk
  refine zaa zfa ?_
  refine zaa zga ?_
  refine zha hO ((Γ++[(p6,(⟨by8 zeros,true⟩:Blk))]).length+0) (zqa rfl) (v:=ptr M.r.pd 0) rfl ?_
  refine zau ok.d hd.1 hM.r (RM.toD hO) ?_
  clear hO
  intro H hO
  replace hO:=RM.ofD hO
  refine zaa zRh ?_
  refine zaa zSh ?_
  have hl:=Dv.read_len ok.d (a:=(m.place part pos).1)
  refine zoa hO (Γ.length+0) (zza i6) (by rw[zta]; rfl) (by rw[zta]; exact hl) (ztb _) ?_
  clear hO
  intro H hO
  rw[List.set_append_left _ _ (by simp),Go.Ab.set_r] at hO
  refine zia hO (Γ.length+0) (zza (zqa rfl)) (by rw[zta]; exact hl) (by omega) ?_
  exact hk _ (St.mid hO)
end J
set_option maxRecDepth 100000
namespace J
open Go Go.Ab
variable{H:Heap}{Γ Γ0 Γ2 Δ G:List (Nat × Blk)}{K:VH}{v w x:Value}{xs ys bs:List Int}{j p:Nat}{e:Int}{d:Dv}{a:Int}{s:List Int}{R:Rl}{m:Mp}{part pos:Int}{M:Rm}
theorem zyO(a b c w:Int):(zAa P 121).f [(0,int a),(1,int b),(2,int c),(3,int w)]=some (agg (opC ⟨a,b,c,w⟩)):=by kernel_rfl
theorem zmw{size n:Nat}{v:Value}{cs:List Value}(h:Own size v n cs):∃ a1 n1 c1,v=.slice a1 n1 c1:=by
 rcases h with⟨h,_⟩|⟨p,rfl|rfl,_⟩
 ·exact⟨_,_,_,h⟩
 ·exact⟨_,_,_,rfl⟩
 ·exact⟨_,_,_,rfl⟩
theorem znA{o:Op}{q:Nat}(hs:m.ops.length≤1000000000)(hM:RMok M m)(hO:St H ((Γ++RM M m)++[(q,⟨opC o,true⟩)]))
  (hk:∀ H' vo',Own 4 vo' (m.ops++[o]).length (zwi (m.ops++[o]))→St H' (Γ++(RMa M m++(zGa vo' (zwi (m.ops++[o]))++RW M.r m.d)))→K vo' H'):opW (zva 4 32 M.vo (sl q 0 1 9) H) K:=by
 have hO2:St H ((((Γ++RMa M m)++RW M.r m.d)++zGa M.vo (zwi m.ops))++[(q,⟨opC o,true⟩)]):=hO.perm (by classical exact List.perm_iff_count.2 fun _=>by simp only[List.count_append,List.count_nil,List.set_cons_zero]; omega)
 refine zSc hO2 hM.o rfl (by omega) rfl (by omega) (by omega) ?_
 intro vo' H' hO hv
 rw[zRz] at hO hv
 refine hk H' vo' (by rw[List.length_append]; exact hv) (hO.perm (by classical exact List.perm_iff_count.2 fun _=>by simp only[List.count_append,List.count_nil,List.set_cons_zero]; omega))
theorem RM.dev{R':Rl}{d':Dv}(hp:R'.pd=M.r.pd)(hO:St H (((Γ++RMa M m)++zGa M.vo (zwi m.ops))++RW R' d')):St H (Γ++RM { M with r:=R' } { m with d:=d' }):=by
 rw[List.append_assoc,List.append_assoc] at hO
 show St H (Γ++([(M.pm,⟨[ptr R'.pd 0,sl M.ps 0 m.spans.length 3,int m.who,M.vo],true⟩),(M.ps,⟨szC m,true⟩)]++(zGa M.vo (zwi m.ops)++RW R' d')))
 rw[hp]
 exact hO
set_option maxHeartbeats 1000000 in
theorem zfv(ok:m.Ok)(hl:s.length=64)(hs:m.Sm 1000000)(hM:RMok M m)(hO:St H (Γ++RM M m))
  (hk:∀ H' M',St H' (Γ++RM M' (m.program part pos s).1)→M'.pm=M.pm→M'.r.pd=M.r.pd→RMok M' (m.program part pos s).1→K (int (m.program part pos s).2) H'):wCall P zQg [ptr M.pm 0,int part,int pos,sec s] H K:=by
 apply zir; unfold zfo
 refine zxa hO ?_
 clear hO
 intro p7 H hO
 replace hO:St H ((Γ++[(p7,⟨by8 s,true⟩)])++RM M m):=St.rot hO
 have i7:(Γ++[(p7,(⟨by8 s,true⟩:Blk))])[Γ.length+0]?=some (p7,⟨by8 s,true⟩):=zqa rfl
 have fin:∀ {H:Heap} {Δ:List (Nat × Blk)},St H ((Γ++[(p7,⟨by8 s,true⟩)])++Δ)→St H (Γ++Δ):=fun h=>St.mid h
 generalize Γ++[(p7,(⟨by8 s,true⟩:Blk))]=Γ' at hO i7 fin
 refine zMk ok hM hO ?_
 refine zaa zRh ?_
 refine zaa zSh ?_
 unfold Mp.program at hk
 refine zwa (fun l' H'=>∃ (M':Rm) (d':Dv) (e':Int),l'=[ptr M.pm 0,int part,int pos,int e']∧St H' (Γ'++RM M' { m with d:=d' })∧M'.pm=M.pm∧M'.r.pd=M.r.pd∧RMok M' { m with d:=d' }∧((m.place part pos).2≠0∧d'=m.d∧e'=(m.place part pos).2∨(m.place part pos).2=0∧d'=(m.d.program (m.place part pos).1 s).1∧e'=(m.d.program (m.place part pos).1 s).2)) ?_ ?_
 ·refine zaa zfb ?_
  refine zja (fun h=>?_) (fun h=>?_)
  ·refine zaa zfa ?_
   refine zaa zga ?_
   refine zha hO (Γ'.length+0) (zqa rfl) (v:=ptr M.r.pd 0) rfl ?_
   refine zia hO (Γ.length+0) (zza i7) (by rw[zta]; exact hl) (by omega) ?_
   refine zev ok.d hl hs.1 hM.r (RM.toD hO) ?_
   clear hO
   intro H R' hO hp hR
   exact⟨{ M with r:=R' },_,_,rfl,RM.dev hp hO,rfl,hp,⟨hR,hM.o,hM.s⟩,.inr ⟨h,rfl,rfl⟩⟩
  ·exact⟨M,m.d,_,rfl,hO,rfl,rfl,hM,.inl ⟨h,rfl,rfl⟩⟩
 clear hO
 rintro l' H ⟨M',d',e',rfl,hO,hpm,hpd,hM',hc⟩
 try simp only[zla,zma]
 refine zaa zfb ?_
 rw[← hpm]
 refine zja (fun h=>?_) (fun h=>?_)
 ·rcases hc with⟨hp,rfl,rfl⟩|⟨hp,rfl,rfl⟩
  ·exact absurd h hp
  rw[if_neg (by rw[hp]; simp)] at hk
  unfold Mp.note at hk
  simp only[if_pos h] at hk
  refine zaa zfa ?_
  refine zaa zga ?_
  refine zha hO (Γ'.length+0) (zqa rfl) (v:=M'.vo) rfl ?_
  refine zaa zfa ?_
  refine zaa zga ?_
  refine zha hO (Γ'.length+0) (zqa rfl) (v:=int m.who) rfl ?_
  refine zaa (zyO _ _ _ _) ?_
  refine zEa hO (zQN _ _) ?_
  clear hO
  intro q H hO
  refine znA (by exact Nat.le_trans hs.2 (by omega)) hM' hO ?_
  clear hO
  intro H vo' hv hO
  obtain⟨a1,n1,c1,e1⟩:=zmw hv
  refine zaa zfa ?_
  refine zaa zga ?_
  refine zua hO (Γ'.length+0) (zqa rfl) (by rw[e1]; rfl) (show 3 < 4 by omega) rfl ?_
  clear hO
  intro H hO
  replace hO:=hO.set_r
  exact hk H { M' with vo:=vo' } (fin hO) hpm hpd ⟨hM'.r,hv,hM'.s⟩
 ·rcases hc with⟨hp,rfl,rfl⟩|⟨hp,rfl,rfl⟩
  ·rw[if_pos hp] at hk
   exact hk H M' (fin hO) hpm hpd hM'
  ·rw[if_neg (by rw[hp]; simp)] at hk
   unfold Mp.note at hk
   simp only[if_neg h] at hk
   exact hk H M' (fin hO) hpm hpd hM'
theorem zKE(ok:m.Ok)(hs:m.Sm 1000000)(hM:RMok M m)(hO:St H (Γ++RM M m))(hk:∀ H' v cs,St H' ((Γ++RM M m)++zGa v cs)→OwnB v (m.all part) cs→K v H'):wCall P zUi [ptr M.pm 0,int part] H K:=by
 apply zyz; unfold zxz
 refine zEa hO (zkm _) ?_
 clear hO
 intro q H hO
 refine zwa (fun l' H'=>l'=[ptr M.pm 0,int part,zya,sl q 0 0 3,.bool (decide (¬ m.has part))]∧H'=H) ?_ ?_
 ·refine zaa zMa ?_
  refine zja (fun h=>?_) (fun h=>?_)
  ·refine zaa (zEb h) ?_
   rw[decide_eq_true (show ¬ m.has part from fun h2=>by have:=h2.1; omega)]
   exact⟨rfl,rfl⟩
  ·refine zaa zfa ?_
   refine zaa zga ?_
   refine zha hO (Γ.length+0) (zza (zqa rfl)) (v:=sl M.ps 0 m.spans.length 3) rfl ?_
   refine zDa zWk ?_
   refine zaa zMg ?_
   refine zaa (zQb h) ?_
   rw[decide_eq_decide.2 (show (m.spans.length:Int)≤part↔¬ m.has part from⟨fun h2 h3=>by have:=h3.2; omega,fun h2=>by
    by_cases h4:part < (m.spans.length:Int)
    ·exact absurd ⟨by omega,h4⟩ h2
    ·omega⟩)]
   exact⟨rfl,rfl⟩
 rintro l' H' ⟨rfl,rfl⟩
 try simp only[zla,zma]
 have hO0:St H' ((Γ++RM M m)++zGa (sl q 0 0 3) []):=hO
 have hv0:OwnB (sl q 0 0 3) [] []:=.inr ⟨q,.inr ⟨rfl,rfl⟩,rfl,Nat.le_refl _,rfl⟩
 by_cases h:m.has part
 rotate_left
 ·rw[decide_eq_true h]
  refine zdg rfl ?_
  have e1:m.all part=[]:=by unfold Mp.all Mp.size; rw[if_neg h]; rfl
  rw[e1] at hk
  exact hk _ _ _ hO0 hv0
 rw[decide_eq_false (fun h2=>h2 h)]
 refine zFe rfl ?_
 have hsz:m.size part=(m.span part).2:=by unfold Mp.size; rw[if_pos h]
 refine zZq (fun k l' H'=>∃ (y:Nat) (v:Value) (cs:List Value),y≤m.size part∧k=m.size part - y∧l'=[ptr M.pm 0,int part,zya,v,int y]∧St H' ((Γ++RM M m)++zGa v cs)∧OwnB v (m.upto part y) cs) _ _ ?_ (m.size part) _ _ ⟨0,_,_,by omega,rfl,rfl,hO0,hv0⟩
 clear hO hO0 hv0
 rintro k l' H ⟨y,v,cs,hy,rfl,rfl,hO,hv⟩
 unfold ziq
 try simp only[zla,zma]
 refine zaa zfa ?_
 refine zaa zga ?_
 refine zha hO (Γ.length+0) (zza (zqa rfl)) (v:=sl M.ps 0 m.spans.length 3) rfl ?_
 refine zaa (zHa h.1 h.2) ?_
 refine zha hO (Γ.length+1) (zza (zqa rfl)) (v:=int (m.span part).2) (by rw[Nat.zero_add,Nat.mul_one]; exact zoC h) ?_
 rw[← hsz]
 refine zaa zMa ?_
 refine zja (fun h2=>?_) (fun h2=>?_)
 ·have hyl:y < m.size part:=by omega
  have hsle:=Mp.size_le ok (part:=part)
  have hul:=Mp.upto_len ok (part:=part) y
  refine zbu ok hs hM hO.rot ?_
  clear hO
  intro H hO
  refine zaa zRh ?_
  refine zaa zSh ?_
  have hrl:=Mp.read_len ok (part:=part) (pos:=(y:Int))
  rw[zcS]
  have hO2:=hO.rot
  clear hO
  refine zxa hO2 ?_
  clear hO2
  intro p7 H hO
  refine zoa hO (_+0) (zqa rfl) (by rw[zta]; rfl) (by rw[zta]; exact hrl) (ztb _) ?_
  clear hO
  intro H hO
  replace hO:=hO.set_r
  refine zaa (zbi hO (_+0) (zqa rfl) (by omega) (by show _≤(by8 _).length; rw[zta,hrl]; omega)) ?_
  refine zAb (ys:=(m.read part y).1) hO hv (by omega) hrl.symm (.inr rfl) ?_
  clear hO hv
  intro H v cs hO hv
  repeat (first|refine oi ?_|refine ow ?_|refine wy ?_|refine wn ?_|refine wt ?_|refine wf' ?_|refine cy ?_|refine cn ?_)
  refine⟨_,by omega,y+1,v,cs,by omega,rfl,rfl,hO,?_⟩
  have e2:m.upto part (y+1)=m.upto part y++(m.read part y).1:=by
   unfold Mp.upto
   rw[List.range_succ,List.flatMap_append]; simp
  rw[e2]
  exact hv
 ·have ey:y=m.size part:=by omega
  subst ey
  refine zgb rfl ?_
  try simp only[zla,zma]
  exact hk _ _ _ hO hv
end J
set_option maxRecDepth 100000
namespace J
open Go Go.Ab
variable{H:Heap}{Γ Γ0 Γ2 Δ G:List (Nat × Blk)}{K:VH}{v w x:Value}{xs ys bs:List Int}{j p:Nat}{e:Int}{d:Dv}{a:Int}{s:List Int}{R:Rl}
theorem zmJ{d:Dv}{a:Int}{n:Int}(h:d.has a):kpC (d.upd a { d.cell a with wear:=n }).cells=kpC d.cells:=by
 obtain⟨hi,e⟩:=Dv.get h
 have hm:∀ (l:List Cell) (f:Cell→List Value),l.flatMap f=(l.map f).flatten:=fun l f=>List.flatMap_def ..
 unfold kpC Dv.upd
 rw[hm,hm,List.map_set]
 congr 1
 apply List.ext_getElem?
 intro i
 rw[List.getElem?_set]
 split
 ·rename_i hh
  subst hh
  rw[if_pos (by simpa using hi),List.getElem?_map,List.getElem?_eq_getElem hi,e]; rfl
 ·rfl
theorem znJ{d:Dv}{a:Int}{n:Int}:(wrC d.cells).set a.toNat (int n)=wrC (d.upd a { d.cell a with wear:=n }).cells:=by
 unfold wrC Dv.upd
 rw[List.map_set]
theorem zTM{d:Dv}{a:Int}{n:Int}(h:d.has a)(hs:∀ i,i < d.cells.length→(d.cells.getD i zQa).seen=zef d.done i (d.cells.getD i zQa).kept) :
  ∀ i,i < (d.upd a { d.cell a with wear:=n }).cells.length→((d.upd a { d.cell a with wear:=n }).cells.getD i zQa).seen=zef (d.upd a { d.cell a with wear:=n }).done i ((d.upd a { d.cell a with wear:=n }).cells.getD i zQa).kept:=by
 obtain⟨hi,e⟩:=Dv.get h
 intro i hil
 have hl:i < d.cells.length:=by simpa [Dv.upd] using hil
 have hx:=hs i hl
 show ((d.cells.set a.toNat { d.cell a with wear:=n }).getD i zQa).seen=zef d.done i ((d.cells.set a.toNat { d.cell a with wear:=n }).getD i zQa).kept
 rw[List.getD_eq_getElem?_getD,List.getElem?_set]
 by_cases hx2:a.toNat=i
 ·rw[if_pos hx2,if_pos hi]
  show (d.cell a).seen=zef d.done i (d.cell a).kept
  unfold Dv.cell
  rw[hx2]
  exact hx
 ·rw[if_neg hx2,← List.getD_eq_getElem?_getD]
  exact hx
set_option maxHeartbeats 1000000 in
theorem zoA(ok:d.Ok)(hd:d.done.length≤1000000)(hR:Rok R d)(hO:St H (Γ++RW R d))
  (hk:∀ H' R',St H' (Γ++RW R' (d.erase a).1)→R'.pd=R.pd→Rok R' (d.erase a).1→K (int (d.erase a).2) H'):wCall P zaj [ptr R.pd 0,int a] H K:=by
 apply zUu; unfold zwt
 unfold Dv.erase at hk
 refine zmA hO (zqa (k:=0) rfl) ?_
 refine zaa zyc ?_
 by_cases h:d.has a
 rotate_left
 ·rw[decide_eq_false h]
  rw[if_pos h] at hk
  refine zdg rfl ?_
  exact hk _ R hO rfl hR
 rw[if_neg (fun h'=>h' h)] at hk
 rw[decide_eq_true h]
 refine zFe rfl ?_
 repeat refine oi ?_
 refine zha hO (Γ.length+0) (zqa rfl) (v:=.bool d.down) rfl ?_
 refine zLb (fun hb=>?_) (fun hb=>?_)
 ·rw[if_pos hb] at hk
  exact hk _ R hO rfl hR
 rw[if_neg (by rw[hb]; simp)] at hk
 repeat refine oi ?_
 refine zha hO (Γ.length+0) (zqa rfl) (v:=sl R.pw 0 d.cells.length 3) rfl ?_
 refine zaa (zHa h.1 h.2) ?_
 refine zha hO (Γ.length+2) (zqa rfl) (v:=int (d.cell a).wear) (by rw[Nat.zero_add,Nat.mul_one]; exact zOM h) ?_
 repeat refine oi ?_
 refine zha hO (Γ.length+0) (zqa rfl) (v:=int d.most) rfl ?_
 refine zaa zfb ?_
 obtain⟨hi,ei⟩:=Dv.get h
 have hwm:(d.cell a).wear≤d.most:=by rw[← ei]; exact hR.w _ (List.getElem_mem hi)
 refine zja (fun h1=>?_) (fun h1=>?_)
 ·rw[if_pos (by omega)] at hk
  exact hk _ R hO rfl hR
 rw[if_neg (by omega)] at hk
 refine zLk hb ok.b hR hO ?_
 clear hO
 intro H hO
 refine zaa zyc ?_
 rw[Bool.not_not]
 have hR2:=hR.step hb
 refine zLb (fun h2=>?_) (fun h2=>?_)
 ·rw[if_pos h2] at hk
  exact hk _ _ hO rfl hR2
 rw[if_neg (by rw[h2]; simp)] at hk
 have hw:=(Dv.cellOk ok.c h).w
 repeat refine oi ?_
 refine zha hO (Γ.length+0) (zqa rfl) (v:=sl R.pw 0 d.cells.length 3) rfl ?_
 refine zaa (zHa h.1 h.2) ?_
 refine zha hO (Γ.length+2) (zqa rfl) (v:=int (d.cell a).wear) (by rw[Nat.zero_add,Nat.mul_one]; exact zOM (d:=d.step) h) ?_
 refine zaa (zxb (by omega) (by omega)) ?_
 refine zaa (zHa h.1 h.2) ?_
 refine zua hO (Γ.length+2) (zqa rfl) rfl (show 0+a.toNat * 1 < (wrC d.step.cells).length by unfold wrC; rw[List.length_map]; show _ < d.cells.length; omega) (show _=wrC (d.step.upd a { d.step.cell a with wear:=(d.cell a).wear+1 }).cells from by rw[Nat.zero_add,Nat.mul_one]; exact znJ (d:=d.step)) ?_
 clear hO
 intro H hO
 replace hO:=hO.set_r
 have hk0:=zmJ (d:=d.step) (a:=a) (n:=(d.cell a).wear+1) h
 have ew:(d.step.upd a { d.cell a with wear:=(d.cell a).wear+1 }).cells.length=d.cells.length:=List.length_set
 have hO:St H (Γ++RW (R.spent d) (d.step.upd a { d.cell a with wear:=(d.cell a).wear+1 })):=by
  show St H (Γ++([(R.pd,⟨[sl R.pk 0 (d.step.upd a { d.cell a with wear:=(d.cell a).wear+1 }).cells.length 129,sl R.pw 0 (d.step.upd a { d.cell a with wear:=(d.cell a).wear+1 }).cells.length 3,int d.most,R.vd,.bool (decide (0≤d.step.budget)),int (R.spent d).bud,.bool d.step.down],true⟩),(R.pk,⟨kpC (d.step.upd a { d.step.cell a with wear:=(d.cell a).wear+1 }).cells,true⟩),(R.pw,⟨wrC (d.step.upd a { d.step.cell a with wear:=(d.cell a).wear+1 }).cells,true⟩)]++zGa R.vd (zkh d.done)))
  rw[hk0,ew]
  exact hO
 generalize hD:d.step.upd a { d.cell a with wear:=(d.cell a).wear+1 }=D at hO hk
 have hDh:D.has a:=by rw[← hD]; exact Dv.upd_has.2 h
 have ok2:D.Ok:=by
  rw[← hD]
  have oks:=Dv.step_ok ok
  have hc:=Dv.cellOk ok.c h
  have hm:=ok.m
  refine Dv.upd_ok oks ⟨hc.k,hc.s,?_⟩
  show 0≤(d.cell a).wear+1∧(d.cell a).wear+1≤100000
  omega
 have hDd:D.done=d.done:=by rw[← hD]; rfl
 have hR3:Rok (R.spent d) D:=by
  rw[← hD]
  refine⟨hR2.o,zTM (d:=d.step) (a:=a) (n:=(d.cell a).wear+1) h hR2.s,hR2.b,?_⟩
  intro c hc
  rcases List.mem_or_eq_of_mem_set hc with hc|rfl
  ·exact hR2.w c hc
  ·show (d.cell a).wear+1≤d.most
   omega
 repeat refine oi ?_
 refine zha hO (Γ.length+0) (zqa rfl) (v:=R.vd) rfl ?_
 refine zAh hO ?_
 intro H2 hO2
 refine⟨zmb hO (Γ.length+0) (zqa rfl) hO2 (Γ.length+0) (zqa rfl) (zIE _ _ hR3.o),?_⟩
 clear hO
 refine zaa (zSM a zJt) ?_
 refine zEa hO2 (zUJ a zJt _) ?_
 clear hO2
 intro q H hO
 refine zND (R:=R.spent d) (d:=D) (a:=a) (s:=blank) hDh zJt (by rw[hDd]; exact hd) hR3 hO.left hO ?_
 clear hO
 rintro H vd' hv' ⟨a1,n1,c1,e3⟩ hO
 repeat refine oi ?_
 refine zua hO (Γ.length+0) (zqa rfl) (by rw[e3]; rfl) (show 3 < 7 by omega) rfl ?_
 clear hO
 intro H hO
 replace hO:=hO.set_r
 refine hk H { R.spent d with vd:=vd' } ?_ rfl ⟨hv',zVJ hDh hR3.s,hR3.b,zWJ hR3.w hDh⟩
 have e4:kpC (D.put a blank).cells=kpC D.cells:=zLD hDh
 have e5:wrC (D.put a blank).cells=wrC D.cells:=zMD hDh
 have e6:rdv { R.spent d with vd:=vd' } (D.put a blank)=[sl R.pk 0 D.cells.length 129,sl R.pw 0 D.cells.length 3,int D.most,vd',.bool (decide (0≤D.budget)),int (R.spent d).bud,.bool D.down]:=by
  unfold rdv
  show [sl R.pk 0 (D.cells.set _ _).length 129,sl R.pw 0 (D.cells.set _ _).length 3,_,_,_,_,_]=_
  rw[List.length_set]; rfl
 show St H (Γ++([(R.pd,⟨rdv { R.spent d with vd:=vd' } (D.put a blank),true⟩),(R.pk,⟨kpC (D.put a blank).cells,true⟩),(R.pw,⟨wrC (D.put a blank).cells,true⟩)]++zGa vd' (zkh (D.put a blank).done)))
 rw[e4,e5,e6]
 exact hO
def Rl.lim(R:Rl)(n:Int):Rl:={ R with bud:=n }
theorem zpA{n:Int}(hR:Rok R d)(hO:St H (Γ++RW R d))(hk:∀ H',St H' (Γ++RW (R.lim n) (d.limit n))→Rok (R.lim n) (d.limit n)→K (.tuple [].toArray) H'):wCall P zwg [ptr R.pd 0,int n] H K:=by
 apply zuu; unfold zKs
 repeat refine oi ?_
 refine zua hO (Γ.length+0) (zqa rfl) rfl (show 4 < 7 by omega) rfl ?_
 clear hO
 intro H hO
 replace hO:=hO.set_r
 repeat refine oi ?_
 refine zua hO (Γ.length+0) (zqa rfl) rfl (show 5 < 7 by omega) rfl ?_
 clear hO
 intro H hO
 replace hO:=hO.set_r
 refine hk H ?_ ⟨hR.o,hR.s,fun h=>?_,hR.w⟩
 ·have e1:decide ((0:Int)≤max n (-1))=decide (0≤n):=decide_eq_decide.2 (by omega)
  show St H (Γ++([(R.pd,⟨[sl R.pk 0 d.cells.length 129,sl R.pw 0 d.cells.length 3,int d.most,R.vd,.bool (decide (0≤max n (-1))),int n,.bool d.down],true⟩),(R.pk,⟨kpC d.cells,true⟩),(R.pw,⟨wrC d.cells,true⟩)]++zGa R.vd (zkh d.done)))
  rw[e1]
  exact hO
 ·have h:0≤max n (-1):=h
  show n=max n (-1)
  omega
end J
set_option maxRecDepth 100000
namespace J
open Go Go.Ab
variable{H:Heap}{Γ Γ0 Γ2 Δ G:List (Nat × Blk)}{K:VH}{v w x:Value}{xs ys bs:List Int}{j p:Nat}{e:Int}{d:Dv}{a:Int}{s:List Int}{R:Rl}
def zHj(cs:List Cell)(i:Nat)(s:List Int):List Cell:=cs.set i { cs.getD i zQa with kept:=s }
theorem zhl{cs:List Cell}{i:Nat}{s:List Int}:(zHj cs i s).length=cs.length:=List.length_set
theorem zdy{cs:List Cell}{i j:Nat}{s:List Int}(hi:i < cs.length):((zHj cs i s).getD j zQa).kept=(if i=j then s else (cs.getD j zQa).kept)∧((zHj cs i s).getD j zQa).seen=(cs.getD j zQa).seen∧((zHj cs i s).getD j zQa).wear=(cs.getD j zQa).wear:=by
 unfold zHj
 rw[List.getD_eq_getElem?_getD (l:=cs.set _ _),List.getElem?_set]
 by_cases h:i=j
 ·subst h
  rw[if_pos rfl,if_pos hi,if_pos rfl]
  exact⟨rfl,rfl,rfl⟩
 ·rw[if_neg h,if_neg h,← List.getD_eq_getElem?_getD]
  exact⟨rfl,rfl,rfl⟩
theorem zuo{cs:List Cell}{i:Nat}{s:List Int}:wrC (zHj cs i s)=wrC cs:=by
 unfold wrC zHj
 rw[List.map_set]
 apply List.ext_getElem?
 intro k
 rw[List.getElem?_set]
 split
 ·rename_i h
  subst h
  rw[List.getElem?_map]
  by_cases hi:i < cs.length
  ·rw[if_pos (by simpa using hi),List.getElem?_eq_getElem hi,List.getD_eq_getElem?_getD,List.getElem?_eq_getElem hi]; rfl
  ·rw[if_neg (by simpa using hi),List.getElem?_eq_none (by omega)]; rfl
 ·rfl
theorem zsH{cs:List Cell}{i o:Nat}{s new:List Int}(ok:∀ c ∈ cs,c.Ok)(hi:i < cs.length)(hn:o+new.length≤64)(hs:s=(cs.getD i zQa).kept.take o++(new++(cs.getD i zQa).kept.drop (o+new.length))) :
  (kpC cs).take (i * 64+o)++(by8 new++(kpC cs).drop (i * 64+o+new.length))=kpC (zHj cs i s):=by
 have hg:cs.getD i zQa=cs[i]:=by rw[List.getD_eq_getElem?_getD,List.getElem?_eq_getElem hi]; rfl
 have h1:=zel (f:=fun c:Cell=>by8 c.kept) (l:=cs) (n:=64) (i:=i) (o:=o) (y:={ cs.getD i zQa with kept:=s }) (new:=by8 new) (fun c hc=>by rw[zta]; exact (ok c hc).k) hi (by rw[zta]; exact hn) (by
  show by8 s=_
  rw[hs,hg,zta]
  simp[by8,List.map_take,List.map_drop])
 rw[zta] at h1
 exact h1
theorem zOD{C C':List Cell}{cs:List Value}{pk:Nat}(hp:pk=R.pk)(hO:St H (Γ++(RW R { d with cells:=C }).set 1 (pk,⟨cs,true⟩)))(hc:cs=kpC C')(hw:wrC C'=wrC C)(hl:C'.length=C.length):St H (Γ++RW R { d with cells:=C' }):=by
 subst hp
 subst hc
 show St H (Γ++([(R.pd,⟨[sl R.pk 0 C'.length 129,sl R.pw 0 C'.length 3,int d.most,R.vd,.bool (decide (0≤d.budget)),int R.bud,.bool d.down],true⟩),(R.pk,⟨kpC C',true⟩),(R.pw,⟨wrC C',true⟩)]++zGa R.vd (zkh d.done)))
 rw[hw,hl]
 exact hO
theorem znw{cs:List Cell}{x:Nat × List Int}:zXu cs x=zHj cs x.1 x.2:=rfl
theorem zJq:∀ (l:List (Nat × List Int)) (cs:List Cell) (i:Nat),(∀ x ∈ l,x.1 < cs.length)→((zIa cs l).getD i zQa).kept=zef l i (cs.getD i zQa).kept∧((zIa cs l).getD i zQa).seen=(cs.getD i zQa).seen
 | [],_,_,_=>⟨rfl,rfl⟩
 | x::l,cs,i,h=>by
  have h1:=zJq l (zXu cs x) i (fun y hy=>by
   show y.1 < (cs.set _ _).length
   rw[List.length_set]
   exact h y (List.mem_cons_of_mem _ hy))
  have h2:=zdy (cs:=cs) (i:=x.1) (j:=i) (s:=x.2) (h x List.mem_cons_self)
  rw[znw,h2.1,h2.2.1] at h1
  exact h1
theorem zcu:∀ (l:List (Nat × List Int)) (cs:List Cell),wrC (zIa cs l)=wrC cs
 | [],_=>rfl
 | x::l,cs=>by
  show wrC (zIa (zXu cs x) l)=_
  rw[zcu l,znw,zuo]
theorem zXJ{C C':List Cell}{n:Int}(h:wrC C'=wrC C)(hw:∀ c ∈ C,c.wear≤n):∀ c ∈ C',c.wear≤n:=by
 have h2:C'.map (·.wear)=C.map (·.wear):=by
  have:=congrArg (List.map fun v:Value=>match v with|.int _ n=>n|_=>0) h
  unfold wrC at this
  rw[List.map_map,List.map_map] at this
  exact this
 intro c hc
 have h3:c.wear ∈ C.map (·.wear):=by rw[← h2]; exact List.mem_map.2 ⟨c,hc,rfl⟩
 obtain⟨c',hc',e⟩:=List.mem_map.1 h3
 rw[← e]
 exact hw c' hc'
set_option maxHeartbeats 1000000 in
theorem zdu(ok:d.Ok)(hd:d.done.length≤1000000)(hR:Rok R d)(hO:St H (Γ++RW R d))
  (hk:∀ H' R',St H' (Γ++RW R' d.sync.1)→R'.pd=R.pd→Rok R' d.sync.1→K (int d.sync.2) H'):wCall P zne [ptr R.pd 0] H K:=by
 apply zqx; unfold zVv
 unfold Dv.sync at hk
 refine zwa (fun l' H'=>l'=[ptr R.pd 0,int 0]∧d.down=false∧d.step.down=false∧St H' (Γ++RW (R.spent d) d.step)∧Rok (R.spent d) d.step) ?_ ?_
 ·repeat refine oi ?_
  refine zha hO (Γ.length+0) (zqa rfl) (v:=.bool d.down) rfl ?_
  cases hb:d.down with
  | true=>
   rw[if_pos hb] at hk
   repeat (first|refine oi ?_|refine wt ?_)
   exact hk _ R hO rfl hR
  | false=>
   rw[if_neg (by rw[hb]; simp)] at hk
   refine zFe rfl ?_
   refine zLk hb ok.b hR hO ?_
   clear hO
   intro H hO
   have hR2:=hR.step hb
   refine zaa zyc ?_
   refine zaa zRa ?_
   rw[Bool.not_not]
   refine zLb (fun h2=>?_) (fun h2=>?_)
   ·rw[if_pos h2] at hk
    exact hk _ _ hO rfl hR2
   ·exact⟨rfl,rfl,h2,hO,hR2⟩
 clear hO
 rintro l' H ⟨rfl,hb,h2,hO,hR2⟩
 rw[if_neg (by rw[hb]; simp),if_neg (by rw[h2]; simp)] at hk
 try simp only[zla,zma]
 repeat refine oi ?_
 refine zha hO (Γ.length+0) (zqa rfl) (v:=R.vd) rfl ?_
 refine zDa hR.o.lenSl ?_
 have oks:=Dv.step_ok ok
 have hds:∀ x ∈ d.done,x.2.length=64:=fun x hx=>(ok.ds x hx).2
 refine zhp (fun k l' H'=>∃ y:Nat,y≤d.done.length∧k=d.done.length - y∧l'=[ptr R.pd 0,int 0,R.vd,int d.done.length,int y]∧St H' (Γ++RW (R.spent d) { d.step with cells:=zIa d.cells (d.done.take y) })) _ _ ?_ d.done.length _ _ ⟨0,by omega,rfl,rfl,hO⟩
 clear hO
 rintro k l' H' ⟨y,hy,rfl,rfl,hO⟩
 unfold zUn
 try simp only[zla,zma]
 refine zaa zMa ?_
 refine zja (fun h=>?_) (fun h=>?_)
 ·have hyl:y < d.done.length:=by omega
  obtain⟨p,c,e1,e2⟩:=zpp hR.o hyl
  have hx:=ok.ds _ (List.getElem_mem hyl)
  have i2:(RW (R.spent d) { d.step with cells:=zIa d.cells (d.done.take y) })[3]?=some (p,⟨zkh d.done,true⟩):=by
   show ([_,_,_]++zGa R.vd (zkh d.done))[3]?=_
   rw[e2]; rfl
  rw[e1]
  refine zaa (zHa (by omega) (by omega)) ?_
  rw[show 0+((y:Nat):Int).toNat * 65=y * 65 by rw[Int.toNat_natCast]; omega]
  rw[← e1]
  refine zBa hO (Γ.length+3) (zqa i2) (zew hds hyl) (zhe hx.2) (by omega) ?_
  rw[zqH]
  refine zxa hO ?_
  clear hO
  intro p4 H hO
  refine zoa hO (_+0) (zqa rfl) (by simp[zta,zeros]) (zhe hx.2) (zop _) ?_
  clear hO
  intro H hO
  replace hO:=St.rot hO.set_r
  replace hO:St H ((Γ++[(p4,⟨chg d.done[y],true⟩)])++RW (R.spent d) { d.step with cells:=zIa d.cells (d.done.take y) }):=hO
  have i4:(Γ++[(p4,(⟨chg d.done[y],true⟩:Blk))])[Γ.length+0]?=some (p4,⟨chg d.done[y],true⟩):=zqa rfl
  have fin:∀ {H:Heap} {Δ:List (Nat × Blk)},St H ((Γ++[(p4,⟨chg d.done[y],true⟩)])++Δ)→St H (Γ++Δ):=fun h=>St.mid h
  generalize Γ++[(p4,(⟨chg d.done[y],true⟩:Blk))]=Γ' at hO i4 fin
  have hCl:(zIa d.cells (d.done.take y)).length=d.cells.length:=zyd _ _
  have ok2:∀ c ∈ zIa d.cells (d.done.take y),c.Ok:=zfl _ _ ok.c (fun x hx=>ok.ds x (List.mem_of_mem_take hx))
  have hlt:d.done[y].1 < (zIa d.cells (d.done.take y)).length:=by rw[hCl]; exact hx.1
  repeat refine oi ?_
  refine zha hO (Γ'.length+0) (zqa rfl) (v:=sl R.pk 0 (zIa d.cells (d.done.take y)).length 129) rfl ?_
  repeat refine oi ?_
  refine zha hO (Γ.length+0) (zza i4) (v:=int d.done[y].1) rfl ?_
  repeat refine oi ?_
  refine zBa hO (Γ.length+0) (zza i4) (show ((chg d.done[y]).drop 1).take 64=by8 d.done[y].2 from ?_) (by rw[zta]; exact hx.2) (by omega) ?_
  ·show (by8 d.done[y].2).take 64=_
   exact List.take_of_length_le (by rw[zta,hx.2]; exact Nat.le_refl _)
  refine zaa (zHa (by omega) (by omega)) ?_
  rw[show 0+((d.done[y].1:Nat):Int).toNat * 64=d.done[y].1 * 64+0 by rw[Int.toNat_natCast]; omega]
  refine zgc hO (Γ'.length+1) (zqa rfl) (show (by8 d.done[y].2).length=64 by rw[zta]; exact hx.2) (by show _≤(kpC (zIa d.cells (d.done.take y))).length; rw[znC ok2]; omega) (ztb _) ?_
  clear hO
  intro H hO
  replace hO:=hO.set_r
  have hk4:=(zsp ok2 hlt).k
  have e3:=zsH (cs:=zIa d.cells (d.done.take y)) (i:=d.done[y].1) (o:=0) (s:=d.done[y].2) (new:=d.done[y].2) ok2 hlt (by rw[hx.2]; omega) (by rw[List.take_zero,List.nil_append,List.drop_of_length_le (by rw[hk4,hx.2]; omega),List.append_nil])
  rw[hx.2] at e3
  have e4:zIa d.cells (d.done.take (y+1))=zHj (zIa d.cells (d.done.take y)) d.done[y].1 d.done[y].2:=by
   rw[List.take_succ_eq_append_getElem hyl,zEq]; rfl
  have hO2:=zOD (C':=zHj (zIa d.cells (d.done.take y)) d.done[y].1 d.done[y].2) rfl hO e3 zuo zhl
  rw[← e4] at hO2
  repeat refine oi ?_
  exact⟨_,by omega,y+1,by omega,rfl,rfl,fin hO2⟩
 ·have ey:y=d.done.length:=by omega
  subst ey
  rw[List.take_length] at hO
  refine zgb rfl ?_
  try simp only[zla,zma]
  repeat refine oi ?_
  refine zua hO (Γ.length+0) (zqa rfl) rfl (show 3 < 7 by omega) rfl ?_
  clear hO
  intro H hO
  have hw3:=zcu d.done d.cells
  refine hk _ { R.spent d with vd:=zya } ?_ rfl ⟨.inl ⟨rfl,rfl,rfl⟩,fun i hi=>?_,hR2.b,zXJ hw3 hR.w⟩
  ·have h3:St H (Γ++([(R.pd,⟨rdv { R.spent d with vd:=zya } { d.step with cells:=zIa d.cells d.done,done:=[] },true⟩),(R.pk,⟨kpC (zIa d.cells d.done),true⟩),(R.pw,⟨wrC (zIa d.cells d.done),true⟩)]++zGa R.vd (zkh d.done))):=hO.set_r
   exact h3.sub (List.Sublist.append (List.Sublist.refl _) (List.Sublist.append (List.Sublist.refl _) (List.nil_sublist _)))
  ·have h4:=zJq d.done d.cells i (fun x hx=>(ok.ds x hx).1)
   have hi:i < d.cells.length:=by
    have:i < (zIa d.cells d.done).length:=hi
    rw[zyd] at this; exact this
   show ((zIa d.cells d.done).getD i zQa).seen=((zIa d.cells d.done).getD i zQa).kept
   rw[h4.1,h4.2]
   exact hR.s i hi
end J
set_option maxRecDepth 100000
namespace J
open Go Go.Ab
variable{H:Heap}{Γ Γ0 Γ2 Δ G:List (Nat × Blk)}{K:VH}{v w x:Value}{xs ys bs:List Int}{j p:Nat}{e:Int}{d:Dv}{a:Int}{s:List Int}{R:Rl}
theorem ztH{cs:List Cell}{i:Nat}{s s':List Int}(hi:i < cs.length):zHj (zHj cs i s) i s'=zHj cs i s':=by
 unfold zHj
 rw[List.set_set]
 congr 1
 rw[List.getD_eq_getElem?_getD (l:=cs.set _ _),List.getElem?_set,if_pos rfl,if_pos hi]
 rfl
theorem zqA{cs:List Cell}{i:Nat}(hi:i < cs.length):zHj cs i (cs.getD i zQa).kept=cs:=by
 unfold zHj
 apply List.ext_getElem?
 intro j
 rw[List.getElem?_set]
 split
 ·rename_i h
  subst h
  rw[List.getElem?_eq_getElem hi,List.getD_eq_getElem?_getD,List.getElem?_eq_getElem hi]
  first|rfl|(rw[if_pos hi]; rfl)
 ·rfl
theorem zoJ{cs:List Cell}{i o:Nat}{b:Int}(ok:∀ c ∈ cs,c.Ok)(hi:i < cs.length)(ho:o < 64):(kpC cs).set (i * 64+o) (.int .u8 b)=kpC (zHj cs i ((cs.getD i zQa).kept.set o b)):=by
 have hk:=(zsp ok hi).k
 have h1:=zsH (cs:=cs) (i:=i) (o:=o) (s:=(cs.getD i zQa).kept.set o b) (new:=[b]) ok hi (by simp; omega) (by
  rw[List.set_eq_take_append_cons_drop,if_pos (by rw[hk]; exact ho)]; rfl)
 rw[← h1,List.set_eq_take_append_cons_drop,if_pos (by rw[znC ok]; omega)]
 rfl
def zJA(s k:List Int)(n:Nat):List Int:=s.take n++k.drop n
theorem zxL{s k:List Int}{n:Nat}(h:n < s.length)(hl:k.length=s.length):(zJA s k n).set n s[n]=zJA s k (n+1):=by
 unfold zJA
 rw[List.set_append_right _ _ (by rw[List.length_take]; omega),List.length_take,show n - min n s.length=0 by omega]
 rw[List.drop_eq_getElem_cons (show n < k.length by omega),List.set_cons_zero,List.take_succ_eq_append_getElem h,List.append_assoc]; rfl
theorem zAp{cs:List Cell}{x:Nat × List Int}{k:Int}:zrp cs x k=zHj cs x.1 (zJA x.2 (cs.getD x.1 zQa).kept (min k.toNat 64)):=rfl
theorem zeu:∀ (l:List ((Nat × List Int) × Int)) (cs:List Cell),wrC (znb cs l)=wrC cs
 | [],_=>rfl
 | x::l,cs=>by
  show wrC (znb (zrp cs x.1 x.2) l)=_
  rw[zeu l,zAp,zuo]
theorem zUM{cs:List Cell}{x:Nat × List Int}:kpC (zHA cs x)=kpC cs∧wrC (zHA cs x)=wrC cs:=by
 unfold zHA
 have e:∀ {β:Type} (f:Cell→β),f { cs.getD x.1 zQa with seen:=(cs.getD x.1 zQa).kept }=f (cs.getD x.1 zQa)→(cs.set x.1 { cs.getD x.1 zQa with seen:=(cs.getD x.1 zQa).kept }).map f=cs.map f:=by
  intro β f hf
  rw[List.map_set,hf]
  apply List.ext_getElem?
  intro j
  rw[List.getElem?_set]
  split
  ·rename_i h
   subst h
   by_cases hi:x.1 < cs.length
   ·rw[if_pos (by simpa using hi),List.getElem?_map,List.getElem?_eq_getElem hi,List.getD_eq_getElem?_getD,List.getElem?_eq_getElem hi]; rfl
   ·rw[if_neg (by simpa using hi),List.getElem?_eq_none (by simp; omega)]
  ·rfl
 have hm:∀ (l:List Cell) (f:Cell→List Value),l.flatMap f=(l.map f).flatten:=fun l f=>List.flatMap_def ..
 refine⟨?_,e _ rfl⟩
 unfold kpC
 rw[hm,hm,e _ rfl]
theorem zfu:∀ (l:List (Nat × List Int)) (cs:List Cell),kpC (zYb cs l)=kpC cs∧wrC (zYb cs l)=wrC cs
 | [],_=>⟨rfl,rfl⟩
 | x::l,cs=>by
  have h1:=zfu l (zHA cs x)
  have h2:=zUM (cs:=cs) (x:=x)
  exact⟨h1.1.trans h2.1,h1.2.trans h2.2⟩
theorem zpJ{cs:List Cell}{x:Nat × List Int}{i:Nat}(hx:x.1 < cs.length):((zHA cs x).getD i zQa).kept=(cs.getD i zQa).kept∧((zHA cs x).getD i zQa).seen=(if x.1=i then (cs.getD i zQa).kept else (cs.getD i zQa).seen):=by
 unfold zHA
 rw[List.getD_eq_getElem?_getD (l:=cs.set _ _),List.getElem?_set]
 by_cases h:x.1=i
 ·subst h
  rw[if_pos rfl,if_pos hx,if_pos rfl]
  exact⟨rfl,rfl⟩
 ·rw[if_neg h,if_neg h,← List.getD_eq_getElem?_getD]
  exact⟨rfl,rfl⟩
theorem zrA:∀ (l:List (Nat × List Int)) (cs:List Cell) (i:Nat),(∀ x ∈ l,x.1 < cs.length)→((cs.getD i zQa).seen=(cs.getD i zQa).kept∨∃ x ∈ l,x.1=i)→((zYb cs l).getD i zQa).seen=((zYb cs l).getD i zQa).kept
 | [],cs,i,_,h=>by
  rcases h with h|⟨x,hx,_⟩
  ·exact h
  ·cases hx
 | x::l,cs,i,hl,h=>by
  have h2:=zpJ (cs:=cs) (i:=i) (hl x List.mem_cons_self)
  refine zrA l (zHA cs x) i (fun y hy=>by rw[zDx]; exact hl y (List.mem_cons_of_mem _ hy)) ?_
  rw[h2.1,h2.2]
  by_cases hx:x.1=i
  ·rw[if_pos hx]; exact .inl rfl
  ·rw[if_neg hx]
   rcases h with h|⟨y,hy,e⟩
   ·exact .inl h
   ·rcases List.mem_cons.1 hy with rfl|hy
    ·exact absurd e hx
    ·exact .inr ⟨y,hy,e⟩
theorem zgu:∀ (l:List (Nat × List Int)) (i:Nat) (s:List Int),(∀ x ∈ l,x.1≠i)→zef l i s=s
 | [],_,_,_=>rfl
 | x::l,i,s,h=>by
  show zef l i (if x.1=i then x.2 else s)=s
  rw[if_neg (h x List.mem_cons_self)]
  exact zgu l i s fun y hy=>h y (List.mem_cons_of_mem _ hy)
theorem zow:∀ (l:List ((Nat × List Int) × Int)) (cs:List Cell) (i:Nat),(∀ x ∈ l,x.1.1 < cs.length∧x.1.1≠i)→((znb cs l).getD i zQa).kept=(cs.getD i zQa).kept∧((znb cs l).getD i zQa).seen=(cs.getD i zQa).seen
 | [],_,_,_=>⟨rfl,rfl⟩
 | x::l,cs,i,h=>by
  have h0:=h x List.mem_cons_self
  have h1:=zow l (zrp cs x.1 x.2) i (fun y hy=>by rw[zKt]; exact h y (List.mem_cons_of_mem _ hy))
  have h2:=zdy (cs:=cs) (i:=x.1.1) (j:=i) (s:=zJA x.1.2 (cs.getD x.1.1 zQa).kept (min x.2.toNat 64)) h0.1
  rw[← zAp,if_neg h0.2] at h2
  exact⟨h1.1.trans h2.1,h1.2.trans h2.2.1⟩
theorem Rok.restart(ok:d.Ok)(hR:Rok R d)(ks:List Int)(b:Int):Rok { R with vd:=zya,bud:=b } (d.restart ks):=by
 refine⟨.inl ⟨rfl,rfl,rfl⟩,fun i hi=>?_,fun h=>?_,?_⟩
 ·have hi:i < d.cells.length:=by
   have:i < (zYb (znb d.cells (d.done.zip ks)) d.done).length:=hi
   rw[zse,zec] at this; exact this
  show ((zYb (znb d.cells (d.done.zip ks)) d.done).getD i zQa).seen=((zYb (znb d.cells (d.done.zip ks)) d.done).getD i zQa).kept
  refine zrA _ _ _ (fun x hx=>by rw[zec]; exact (ok.ds x hx).1) ?_
  by_cases hex:∃ x ∈ d.done,x.1=i
  ·exact .inr hex
  ·have hne:∀ x ∈ d.done,x.1≠i:=fun x hx e=>hex ⟨x,hx,e⟩
   have h1:=zow (d.done.zip ks) d.cells i (fun x hx=>⟨(zzD (ks:=ks) ok.ds x hx).1,hne _ (List.of_mem_zip hx).1⟩)
   rw[h1.1,h1.2,hR.s i hi,zgu _ _ _ hne]
   exact .inl rfl
 ·have:(0:Int)≤-1:=h
  omega
 ·refine zXJ (C:=d.cells) ?_ hR.w
  show wrC (zYb (znb d.cells (d.done.zip ks)) d.done)=_
  rw[(zfu _ _).2,zeu]
set_option maxHeartbeats 2000000 in
theorem zgv{ks:List Int}(ok:d.Ok)(hd:d.done.length≤1000000)(hR:Rok R d)(hO:St H (Γ++RW R d))(hw:RdB Γ w ks)(hb:∀ k ∈ ks,0≤k∧k≤255)
  (hk:∀ H',St H' (Γ++RW { R with vd:=zya } (d.restart ks))→Rok { R with vd:=zya } (d.restart ks)→K (.tuple [].toArray) H'):wCall P zzc [ptr R.pd 0,w] H K:=by
 apply zSq; unfold zyn
 repeat refine oi ?_
 refine zha hO (Γ.length+0) (zqa rfl) (v:=R.vd) rfl ?_
 refine zDa hR.o.lenSl ?_
 have hds:∀ x ∈ d.done,x.2.length=64:=fun x hx=>(ok.ds x hx).2
 have hz:=zzD (ks:=ks) ok.ds
 refine zll (fun k l' H'=>∃ y:Nat,y≤d.done.length∧k=d.done.length - y∧l'=[ptr R.pd 0,w,R.vd,int d.done.length,int y]∧St H' (Γ++RW R { d with cells:=znb d.cells ((d.done.zip ks).take y) })) _ _ ?_ d.done.length _ _ ⟨0,by omega,rfl,rfl,hO⟩
 clear hO
 rintro k l' H' ⟨y,hy,rfl,rfl,hO⟩
 unfold zrj
 try simp only[zla,zma]
 refine zaa zMa ?_
 refine zja (fun h=>?_) (fun h=>?_)
 ·have hyl:y < d.done.length:=by omega
  obtain⟨p,c,e1,e2⟩:=zpp hR.o hyl
  have hx:=ok.ds _ (List.getElem_mem hyl)
  have hCl:(znb d.cells ((d.done.zip ks).take y)).length=d.cells.length:=zec _ _
  have okC:∀ c ∈ znb d.cells ((d.done.zip ks).take y),c.Ok:=zui _ _ ok.c (fun x hx=>hz x (List.mem_of_mem_take hx))
  have hnext:znb d.cells ((d.done.zip ks).take (y+1))=zHj (znb d.cells ((d.done.zip ks).take y)) d.done[y].1 (zJA d.done[y].2 ((znb d.cells ((d.done.zip ks).take y)).getD d.done[y].1 zQa).kept (if h:y < ks.length then min ks[y].toNat 64 else 0)):=by
   by_cases hyk:y < ks.length
   ·have hyz:y < (d.done.zip ks).length:=by rw[List.length_zip]; omega
    rw[List.take_succ_eq_append_getElem hyz,dif_pos hyk]
    unfold znb
    rw[List.foldl_append]
    show zrp _ ((d.done.zip ks)[y]).1 ((d.done.zip ks)[y]).2=_
    rw[List.getElem_zip,zAp]
   ·rw[dif_neg hyk]
    have e5:(d.done.zip ks).take (y+1)=(d.done.zip ks).take y:=by
     rw[List.take_of_length_le (by rw[List.length_zip]; omega),List.take_of_length_le (by rw[List.length_zip]; omega)]
    rw[e5]
    unfold zJA
    rw[List.take_zero,List.nil_append,List.drop_zero,zqA (by rw[hCl]; exact hx.1)]
  generalize znb d.cells ((d.done.zip ks).take y)=C at hO hCl okC hnext
  have i2:(RW R { d with cells:=C })[3]?=some (p,⟨zkh d.done,true⟩):=by
   show ([_,_,_]++zGa R.vd (zkh d.done))[3]?=_
   rw[e2]; rfl
  rw[e1]
  refine zaa (zHa (by omega) (by omega)) ?_
  rw[show 0+((y:Nat):Int).toNat * 65=y * 65 by rw[Int.toNat_natCast]; omega]
  rw[← e1]
  refine zBa hO (Γ.length+3) (zqa i2) (zew hds hyl) (zhe hx.2) (by omega) ?_
  rw[zqH]
  refine zxa hO ?_
  clear hO
  intro p5 H hO
  refine zoa hO (_+0) (zqa rfl) (by simp[zta,zeros]) (zhe hx.2) (zop _) ?_
  clear hO
  intro H hO
  replace hO:=St.rot hO.set_r
  replace hO:St H ((Γ++[(p5,⟨chg d.done[y],true⟩)])++RW R { d with cells:=C }):=hO
  have i5:(Γ++[(p5,(⟨chg d.done[y],true⟩:Blk))])[Γ.length+0]?=some (p5,⟨chg d.done[y],true⟩):=zqa rfl
  have fin:∀ {H:Heap} {Δ:List (Nat × Blk)},St H ((Γ++[(p5,⟨chg d.done[y],true⟩)])++Δ)→St H (Γ++Δ):=fun h=>St.mid h
  have hw':=hw.app (Δ:=[(p5,(⟨chg d.done[y],true⟩:Blk))])
  generalize Γ++[(p5,(⟨chg d.done[y],true⟩:Blk))]=Γ' at hO i5 fin hw'
  generalize hm:(if h:y < ks.length then min ks[y].toNat 64 else 0)=m at hnext
  have hm64:m≤64:=by rw[← hm]; split <;> omega
  have hlt:d.done[y].1 < C.length:=by rw[hCl]; exact hx.1
  have hkl:=(zsp okC hlt).k
  have hself:zHj C d.done[y].1 (zJA d.done[y].2 (C.getD d.done[y].1 zQa).kept (min 0 m))=C:=by
   rw[Nat.zero_min]
   unfold zJA
   rw[List.take_zero,List.nil_append,List.drop_zero,zqA hlt]
  refine zml (fun k l' H'=>∃ i:Nat,i≤64∧k=64 - i∧l'=[ptr R.pd 0,w,int y,ptr p5 0,R.vd,int d.done.length,int y,int i]∧St H' (Γ'++RW R { d with cells:=zHj C d.done[y].1 (zJA d.done[y].2 (C.getD d.done[y].1 zQa).kept (min i m)) })) _ _ ?_ 64 _ _ ⟨0,by omega,rfl,rfl,by rw[hself]; exact hO⟩
  clear hO hself
  rintro k l' H' ⟨i,hi,rfl,rfl,hO⟩
  unfold zsj
  try simp only[zla,zma]
  refine zaa zMa ?_
  refine zja (fun h2=>?_) (fun h2=>?_)
  ·have hi64:i < 64:=by omega
   refine zwa (fun l' H2=>l'=[ptr R.pd 0,w,int y,ptr p5 0,int i,R.vd,int d.done.length,int y,int i,.bool (decide (i < m))]∧H2=H') ?_ ?_
   ·refine zDa hw.lenSl ?_
    refine zaa zMa ?_
    refine zja (fun h3=>?_) (fun h3=>?_)
    ·have hyk:y < ks.length:=by omega
     have hkb:=hb _ (List.getElem_mem hyk)
     obtain⟨p6,o6,c6,j6,b6,rfl,h61,h62⟩:=hw'.at hyk
     refine zaa (zHa (by omega) (by omega)) ?_
     refine zha hO j6 (zza h61) (v:=.int .u8 ks[y]) (by simpa using h62) ?_
     refine zDa (zeg (by omega) (by omega)) ?_
     refine zaa zMa ?_
     refine zaa (zEb h3) ?_
     rw[dif_pos hyk] at hm
     rw[decide_eq_decide.2 (show (i:Int) < ks[y]↔i < m by omega)]
     exact⟨rfl,rfl⟩
    ·refine zaa (zQb h3) ?_
     rw[dif_neg (by omega)] at hm
     rw[decide_eq_false (show ¬ i < m by omega)]
     exact⟨rfl,rfl⟩
   rintro l' H2 ⟨rfl,rfl⟩
   try simp only[zla,zma]
   refine zja (fun h3=>?_) (fun h3=>?_)
   ·have emin:min i m=i:=by omega
    have emin2:min (i+1) m=i+1:=by omega
    rw[emin] at hO
    have okS:∀ c ∈ zHj C d.done[y].1 (zJA d.done[y].2 (C.getD d.done[y].1 zQa).kept i),c.Ok:=by
     have:=zsp okC hlt
     refine zJg okC ⟨?_,this.s,this.w⟩
     show (d.done[y].2.take i++(C.getD d.done[y].1 zQa).kept.drop i).length=64
     rw[List.length_append,List.length_take,List.length_drop,hkl,hx.2]; omega
    have hkp:=(zdy (cs:=C) (i:=d.done[y].1) (j:=d.done[y].1) (s:=zJA d.done[y].2 (C.getD d.done[y].1 zQa).kept i) hlt).1
    rw[if_pos rfl] at hkp
    have e3:=zoJ (cs:=zHj C d.done[y].1 (zJA d.done[y].2 (C.getD d.done[y].1 zQa).kept i)) (i:=d.done[y].1) (o:=i) (b:=d.done[y].2[i]'(by omega)) okS (by rw[zhl]; exact hlt) hi64
    rw[hkp,zxL (by omega) (by rw[hkl,hx.2]),ztH hlt] at e3
    repeat refine oi ?_
    refine zha hO (Γ'.length+0) (zqa rfl) (v:=sl R.pk 0 (zHj C d.done[y].1 (zJA d.done[y].2 (C.getD d.done[y].1 zQa).kept i)).length 129) rfl ?_
    repeat refine oi ?_
    refine zha hO (Γ.length+0) (zza i5) (v:=int d.done[y].1) rfl ?_
    repeat refine oi ?_
    refine zha hO (Γ.length+0) (zza i5) (v:=.int .u8 (d.done[y].2[i]'(by omega))) ?_ ?_
    ·show (int d.done[y].1::by8 d.done[y].2)[0+1+((i:Nat):Int).toNat * 1]?=_
     rw[show 0+1+((i:Nat):Int).toNat * 1=i+1 by omega,List.getElem?_cons_succ]
     simp[by8,show i < d.done[y].2.length by omega]
    rw[zhl]
    refine zaa (zHa (by omega) (by omega)) ?_
    refine zaa (zjb (by omega) (by omega)) ?_
    rw[show 0+((d.done[y].1:Nat):Int).toNat * 64+((i:Nat):Int).toNat * 1=d.done[y].1 * 64+i by omega]
    refine zua hO (Γ'.length+1) (zqa rfl) rfl (by show _ < (kpC _).length; rw[znC okS,zhl]; omega) (show _=kpC (zHj C d.done[y].1 (zJA d.done[y].2 (C.getD d.done[y].1 zQa).kept (i+1))) from e3) ?_
    clear hO
    intro H hO
    replace hO:=hO.set_r
    have hO2:=zOD (C':=zHj C d.done[y].1 (zJA d.done[y].2 (C.getD d.done[y].1 zQa).kept (i+1))) rfl hO rfl (by rw[zuo,zuo]) (by rw[zhl,zhl])
    rw[← emin2] at hO2
    repeat refine oi ?_
    exact⟨_,by omega,i+1,by omega,rfl,rfl,hO2⟩
   ·have emin:min (i+1) m=min i m:=by omega
    rw[← emin] at hO
    repeat refine oi ?_
    exact⟨_,by omega,i+1,by omega,rfl,rfl,hO⟩
  ·have ei:i=64:=by omega
   subst ei
   rw[show min 64 m=m by omega,← hnext] at hO
   refine zgb rfl ?_
   try simp only[zla,zma]
   repeat refine oi ?_
   exact⟨_,by omega,y+1,by omega,rfl,rfl,fin hO⟩
 ·have ey:y=d.done.length:=by omega
  subst ey
  rw[List.take_of_length_le (by rw[List.length_zip]; omega)] at hO
  refine zgb rfl ?_
  try simp only[zla,zma]
  repeat refine oi ?_
  refine zua hO (Γ.length+0) (zqa rfl) rfl (show 3 < 7 by omega) rfl ?_
  clear hO
  intro H hO
  replace hO:=hO.set_r
  repeat refine oi ?_
  refine zua hO (Γ.length+0) (zqa rfl) rfl (show 4 < 7 by omega) rfl ?_
  clear hO
  intro H hO
  replace hO:=hO.set_r
  repeat refine oi ?_
  refine zua hO (Γ.length+0) (zqa rfl) rfl (show 6 < 7 by omega) rfl ?_
  clear hO
  intro H hO
  replace hO:=hO.set_r
  refine hk H ?_ (Rok.restart ok hR ks R.bud)
  have e3:=zfu d.done (znb d.cells (d.done.zip ks))
  have h3:St H (Γ++([(R.pd,⟨[sl R.pk 0 (zYb (znb d.cells (d.done.zip ks)) d.done).length 129,sl R.pw 0 (zYb (znb d.cells (d.done.zip ks)) d.done).length 3,int d.most,zya,.bool false,int R.bud,.bool false],true⟩),(R.pk,⟨kpC (zYb (znb d.cells (d.done.zip ks)) d.done),true⟩),(R.pw,⟨wrC (zYb (znb d.cells (d.done.zip ks)) d.done),true⟩)]++zGa R.vd (zkh d.done))):=by
   rw[e3.1,e3.2,zse]
   exact hO
  exact h3.sub (List.Sublist.append (List.Sublist.refl _) (List.Sublist.append (List.Sublist.refl _) (List.nil_sublist _)))
end J
set_option maxRecDepth 100000
namespace J
open Go Go.Ab
variable{H:Heap}{Γ Γ0 Γ2 Δ G:List (Nat × Blk)}{K:VH}{v w x:Value}{xs ys bs:List Int}{j p:Nat}{e:Int}
abbrev b01(b:Bool):Value:=int (if b then 1 else 0)
def bl(f:Nat→Bool):List Value:=(List.range 32).map fun i=>b01 (f i)
def fb(r:Nat)(i:Nat):Bool:=r.testBit (31 - i)
theorem zBh{f:Nat→Bool}:(bl f).length=32:=by simp[bl]
theorem zsA{f:Nat→Bool}{i:Nat}(h:i < 32):(bl f)[i]?=some (b01 (f i)):=by simp[bl,h]
theorem zHd{f g:Nat→Bool}(h:∀ i,i < 32→f i=g i):bl f=bl g:=by
 unfold bl
 apply List.map_congr_left
 intro i hi
 rw[h i (List.mem_range.1 hi)]
theorem zVM{f:Nat→Bool}{i:Nat}{b:Bool}(h:i < 32):(bl f).set i (b01 b)=bl (fun j=>if j=i then b else f j):=by
 apply List.ext_getElem?
 intro j
 rw[List.getElem?_set]
 by_cases hj:i=j
 ·subst hj
  rw[if_pos rfl,if_pos (by rw[zBh]; exact h),zsA h,if_pos rfl]
 ·rw[if_neg hj]
  by_cases hl:j < 32
  ·rw[zsA hl,zsA hl,if_neg (fun h=>hj h.symm)]
  ·rw[List.getElem?_eq_none (by rw[zBh]; omega),List.getElem?_eq_none (by rw[zBh]; omega)]
theorem zPD(f:Nat→Bool):(bl f).all oneCell=true:=by simp[bl,oneCell]
theorem zWM{t:TypeId}{c:Bool}{a b:Bool}:(zsa P .xor t c).f (b01 a) (b01 b)=some (b01 (xor a b)):=by
 cases a <;> cases b <;> rfl
theorem zYJ:zc P 235=bl (fun _=>false):=by kernel_rfl
theorem zZJ:(zAa P 235).f []=some (agg (bl fun _=>false)):=by kernel_rfl
theorem zcO:(zAa P 235).f [(0,(.int .i64 1)),(1,(.int .i64 1)),(2,(.int .i64 1)),(3,(.int .i64 0)),(4,(.int .i64 1)),(5,(.int .i64 1)),(6,(.int .i64 0)),(7,(.int .i64 1)),(8,(.int .i64 1)),(9,(.int .i64 0)),(10,(.int .i64 1)),(11,(.int .i64 1)),(12,(.int .i64 1)),(13,(.int .i64 0)),(14,(.int .i64 0)),(15,(.int .i64 0)),(16,(.int .i64 1)),(17,(.int .i64 0)),(18,(.int .i64 0)),(19,(.int .i64 0)),(20,(.int .i64 0)),(21,(.int .i64 0)),(22,(.int .i64 1)),(23,(.int .i64 1)),(24,(.int .i64 0)),(25,(.int .i64 0)),(26,(.int .i64 1)),(27,(.int .i64 0)),(28,(.int .i64 0)),(29,(.int .i64 0)),(30,(.int .i64 0)),(31,(.int .i64 0))]=some (agg (bl (fb 3988292384))):=by kernel_rfl
theorem zqJ{r:Nat}(h:r % 2=1):zPK r=(r / 2) ^^^ 3988292384:=by
 unfold zPK
 show (r / 2) ^^^ (3988292384 &&& ((4294967296 - (r &&& 1)) % 4294967296))=_
 rw[Nat.and_one_is_mod,h]
 rfl
theorem zuH{r:Nat}(h:r % 2=0):zPK r=r / 2:=by
 unfold zPK
 show (r / 2) ^^^ (3988292384 &&& ((4294967296 - (r &&& 1)) % 4294967296))=_
 rw[Nat.and_one_is_mod,h]
 show (r / 2) ^^^ (3988292384 &&& 0)=_
 rw[Nat.and_zero,Nat.xor_zero]
def sh1(f:Nat→Bool)(j:Nat):Bool:=if j=0 then false else f (j - 1)
theorem zXM{r j:Nat}(hr:r < 4294967296)(hj:j < 32):sh1 (fb r) j=(r / 2).testBit (31 - j):=by
 unfold sh1 fb
 rw[Nat.testBit_div_two]
 by_cases h:j=0
 ·rw[if_pos h,h]
  exact (Nat.testBit_lt_two_pow (show r < 2 ^ 32 from hr)).symm
 ·rw[if_neg h,show 31 - (j - 1)=31 - j+1 by omega]
theorem zyL{r j:Nat}(hr:r < 4294967296)(hj:j < 32):fb (zPK r) j=xor (sh1 (fb r) j) (r.testBit 0 && fb 3988292384 j):=by
 rw[zXM hr hj]
 have h0:r.testBit 0=decide (r % 2=1):=Nat.testBit_zero r
 rw[h0]
 rcases Nat.mod_two_eq_zero_or_one r with h|h
 ·rw[zuH h,h]
  simp[fb]
 ·rw[zqJ h,h]
  unfold fb
  rw[Nat.testBit_xor]
  simp
theorem zCN{Γ:List (Nat × Blk)}{f:Nat→Bool}{i k q:Nat}{b:Bool}{K:VH}{a:Int}(hO:St H Γ)(hj:Γ[k]?=some (q,⟨bl f,true⟩))(ha:a=(i:Int))(hi:i < 32)(hk:∀ H',St H' (Γ.set k (q,⟨bl (fun j=>if j=i then b else f j),true⟩))→K undef H'):opP (zJa 32 1 (ptr q 0) (int a)) fun t=>opW (zka 1 t (b01 b) H) K:=by
 subst ha
 refine zaa (zjb (by omega) (by omega)) ?_
 refine zua hO k hj rfl (by rw[zBh]; omega) (show _=bl (fun j=>if j=i then b else f j) from by rw[show 0+((i:Nat):Int).toNat * 1=i by omega]; exact zVM hi) hk
theorem zYM{Γ:List (Nat × Blk)}{f:Nat→Bool}{i k q:Nat}{w:Bool}{K:VH}{a:Int}(hO:St H Γ)(hj:Γ[k]?=some (q,⟨bl f,w⟩))(ha:a=(i:Int))(hi:i < 32)(hk:K (b01 (f i)) H):opP (zJa 32 1 (ptr q 0) (int a)) fun t=>opW (zba t H) K:=by
 subst ha
 refine zaa (zjb (by omega) (by omega)) ?_
 refine zha hO k hj (v:=b01 (f i)) ?_ hk
 rw[show 0+((i:Nat):Int).toNat * 1=i by omega]
 exact zsA hi
theorem zdO{a k:Nat}:zib .i64 (a / 2 ^ k % 2)=b01 (a.testBit k):=by
 rw[Nat.testBit_eq_decide_div_mod_eq]
 rcases Nat.mod_two_eq_zero_or_one (a / 2 ^ k) with h|h
 ·rw[h]; rfl
 ·rw[h]; rfl
end J
set_option maxRecDepth 100000
namespace J
open Go Go.Ab
variable{H:Heap}{Γ Γ0 Γ2 Δ G:List (Nat × Blk)}{K:VH}{v w x:Value}{xs ys bs:List Int}{j p:Nat}{e:Int}
abbrev CB(p3 p5:Nat)(f:Nat→Bool):List (Nat × Blk):=[(p3,⟨bl f,true⟩),(p5,⟨bl (fb 3988292384),true⟩)]
theorem zZM{p3 p5 p11:Nat}{f:Nat→Bool}{t0 t3 t4 t7 t8 t9:Value}{Qx:LX}{Qr:LN}
  (hO:St H ((Γ++CB p3 p5 f)++[(p11,⟨bl fun _=>false,true⟩)]))
  (hk:∀ H',St H' ((Γ++CB p3 p5 f)++[(p11,⟨bl (sh1 f),true⟩)])→Qx 8 [t0,ptr p3 0,ptr p5 0,t3,t4,ptr p11 0,t7,t8,t9] H') :
  zdb P true 91 zwk 234884652 [t0,ptr p3 0,ptr p5 0,t3,t4,ptr p11 0,int 1,t7,t8,t9] H Qx Qr:=by
 refine zpr (fun k l' H'=>∃ i:Nat,1≤i∧i≤32∧k=32 - i∧l'=[t0,ptr p3 0,ptr p5 0,t3,t4,ptr p11 0,int i,t7,t8,t9]∧St H' ((Γ++CB p3 p5 f)++[(p11,⟨bl (fun j=>if j < i then sh1 f j else false),true⟩)])) _ _ ?_ 31 _ _ ⟨1,by omega,by omega,rfl,rfl,?_⟩
 rotate_left
 ·rw[show bl (fun j=>if j < 1 then sh1 f j else false)=bl fun _=>false from zHd fun j hj=>by
   by_cases h:j=0
   ·subst h; rfl
   ·rw[if_neg (by omega)]]
  exact hO
 clear hO
 rintro k l' H ⟨i,h1,hi,rfl,rfl,hO⟩
 unfold zBq
 try simp only[zla,zma]
 refine zaa zMa ?_
 refine zja (fun h=>?_) (fun h=>?_)
 ·have hi32:i < 32:=by omega
  refine zaa (zae (by omega) (by omega)) ?_
  refine zYM (i:=i - 1) hO (k:=Γ.length+0) (zza (zqa rfl)) (by omega) (by omega) ?_
  refine zCN (i:=i) (k:=_+0) hO (zqa rfl) rfl hi32 ?_
  clear hO
  intro H hO
  replace hO:=hO.set_r
  repeat (first|refine oi ?_|refine ow ?_|refine wy ?_|refine wn ?_|refine wt ?_|refine wf' ?_|refine cy ?_|refine cn ?_)
  refine⟨_,by omega,i+1,by omega,by omega,rfl,rfl,?_⟩
  rw[show bl (fun j=>if j < i+1 then sh1 f j else false)=bl (fun j=>if j=i then f (i - 1) else if j < i then sh1 f j else false) from zHd fun j hj=>by
   by_cases h2:j=i
   ·rw[if_pos h2,if_pos (by omega),h2]
    unfold sh1
    rw[if_neg (by omega)]
   ·rw[if_neg h2]
    by_cases h3:j < i
    ·rw[if_pos h3,if_pos (by omega)]
    ·rw[if_neg h3,if_neg (by omega)]]
  exact hO
 ·have ei:i=32:=by omega
  subst ei
  rw[show bl (fun j=>if j < 32 then sh1 f j else false)=bl (sh1 f) from zHd fun j hj=>if_pos hj] at hO
  exact hk H hO
theorem zaN{p3 p5 p11:Nat}{f g:Nat→Bool}{o:Bool}{t0 t3 t7 t8 t9:Value}{Qx:LX}{Qr:LN}
  (hO:St H ((Γ++CB p3 p5 f)++[(p11,⟨bl g,true⟩)]))
  (hk:∀ H',St H' ((Γ++CB p3 p5 f)++[(p11,⟨bl (fun j=>xor (g j) (o && fb 3988292384 j)),true⟩)])→Qx 10 [t0,ptr p3 0,ptr p5 0,t3,ptr p11 0,t7,t8,t9] H') :
  zdb P true 91 zxk 234883628 [t0,ptr p3 0,ptr p5 0,t3,b01 o,ptr p11 0,t7,t8,t9,int 0] H Qx Qr:=by
 refine zqr (fun k l' H'=>∃ i:Nat,i≤32∧k=32 - i∧l'=[t0,ptr p3 0,ptr p5 0,t3,b01 o,ptr p11 0,t7,t8,t9,int i]∧St H' ((Γ++CB p3 p5 f)++[(p11,⟨bl (fun j=>if j < i then xor (g j) (o && fb 3988292384 j) else g j),true⟩)])) _ _ ?_ 32 _ _ ⟨0,by omega,rfl,rfl,?_⟩
 rotate_left
 ·rw[show bl (fun j=>if j < 0 then xor (g j) (o && fb 3988292384 j) else g j)=bl g from zHd fun j hj=>if_neg (by omega)]
  exact hO
 clear hO
 rintro k l' H ⟨i,hi,rfl,rfl,hO⟩
 unfold zCq
 try simp only[zla,zma]
 refine zaa zMa ?_
 refine zja (fun h=>?_) (fun h=>?_)
 ·have hi32:i < 32:=by omega
  refine zaa zfb ?_
  cases o with
  | true=>
   refine zUw (by simp) ?_
   refine zYM (i:=i) hO (k:=_+0) (zqa rfl) rfl hi32 ?_
   refine zYM (i:=i) hO (k:=Γ.length+1) (zza (zqa rfl)) rfl hi32 ?_
   refine zaa zWM ?_
   refine zCN (i:=i) (k:=_+0) hO (zqa rfl) rfl hi32 ?_
   clear hO
   intro H hO
   replace hO:=hO.set_r
   repeat (first|refine oi ?_|refine ow ?_|refine wy ?_|refine wn ?_|refine wt ?_|refine wf' ?_|refine cy ?_|refine cn ?_)
   refine⟨_,by omega,i+1,by omega,rfl,rfl,?_⟩
   rw[show bl (fun j=>if j < i+1 then xor (g j) (true && fb 3988292384 j) else g j)=bl (fun j=>if j=i then xor (if i < i then xor (g i) (true && fb 3988292384 i) else g i) (fb 3988292384 i) else if j < i then xor (g j) (true && fb 3988292384 j) else g j) from zHd fun j hj=>by
    by_cases h2:j=i
    ·subst h2
     rw[if_pos (by omega),if_pos rfl,if_neg (by omega),Bool.true_and]
    ·rw[if_neg h2]
     by_cases h3:j < i
     ·rw[if_pos h3,if_pos (by omega)]
     ·rw[if_neg h3,if_neg (by omega)]]
   exact hO
  | false=>
   refine zKp (by simp) ?_
   repeat (first|refine oi ?_|refine ow ?_|refine wy ?_|refine wn ?_|refine wt ?_|refine wf' ?_|refine cy ?_|refine cn ?_)
   refine⟨_,by omega,i+1,by omega,rfl,rfl,?_⟩
   rw[show bl (fun j=>if j < i+1 then xor (g j) (false && fb 3988292384 j) else g j)=bl (fun j=>if j < i then xor (g j) (false && fb 3988292384 j) else g j) from zHd fun j hj=>by
    simp]
   exact hO
 ·have ei:i=32:=by omega
  subst ei
  rw[show bl (fun j=>if j < 32 then xor (g j) (o && fb 3988292384 j) else g j)=bl (fun j=>xor (g j) (o && fb 3988292384 j)) from zHd fun j hj=>if_pos hj] at hO
  exact hk H hO
theorem zbN{p3 p5 r:Nat}{t0 t7 t8 t9:Value}{Qx:LX}{Qr:LN}(hr:r < 4294967296)
  (hO:St H (Γ++CB p3 p5 (fb r)))
  (hk:∀ H',St H' (Γ++CB p3 p5 (fb (zsG 8 r)))→Qx 6 [t0,ptr p3 0,ptr p5 0,t7,t8,t9] H') :
  zdb P true 91 zvk 234881068 [t0,ptr p3 0,ptr p5 0,int 0,t7,t8,t9] H Qx Qr:=by
 refine zor (fun k l' H'=>∃ i:Nat,i≤8∧k=8 - i∧l'=[t0,ptr p3 0,ptr p5 0,int i,t7,t8,t9]∧St H' (Γ++CB p3 p5 (fb (zsG i r)))) _ _ ?_ 8 _ _ ⟨0,by omega,rfl,rfl,hO⟩
 clear hO
 rintro k l' H ⟨i,hi,rfl,rfl,hO⟩
 unfold zAq
 try simp only[zla,zma]
 refine zaa zMa ?_
 refine zja (fun h=>?_) (fun h=>?_)
 ·have hlt:=zwx hr i
  refine zYM (i:=31) hO (k:=Γ.length+0) (zqa rfl) rfl (by omega) ?_
  refine zaa zZJ ?_
  rw[zYJ]
  refine zxa hO ?_
  clear hO
  intro p11 H hO
  refine zoa hO (_+0) (zqa rfl) zBh zBh (zPD _) ?_
  clear hO
  intro H hO
  replace hO:=hO.set_r
  refine zZM hO ?_
  clear hO
  intro H hO
  refine zgb rfl ?_
  try simp only[zla,zma]
  refine zaN hO ?_
  clear hO
  intro H hO
  refine zgb rfl ?_
  try simp only[zla,zma]
  refine zia hO (_+0) (zqa rfl) zBh (by omega) ?_
  refine zoa hO.left (Γ.length+0) (zqa rfl) zBh zBh (zPD _) ?_
  clear hO
  intro H hO
  replace hO:=hO.set_r
  repeat (first|refine oi ?_|refine ow ?_|refine wy ?_|refine wn ?_|refine wt ?_|refine wf' ?_|refine cy ?_|refine cn ?_)
  refine⟨_,by omega,i+1,by omega,rfl,rfl,?_⟩
  rw[show bl (fun j=>xor (sh1 (fb (zsG i r)) j) (fb (zsG i r) 31 && fb 3988292384 j))=bl (fb (zsG (i+1) r)) from zHd fun j hj=>(zyL hlt hj).symm] at hO
  exact hO
 ·have ei:i=8:=by omega
  subst ei
  exact hk H hO
theorem zcN{p3 p5 r b:Nat}{t0 t7 t8 t9:Value}{Qx:LX}{Qr:LN}(hb:b < 256)
  (hO:St H (Γ++CB p3 p5 (fb r)))
  (hk:∀ H',St H' (Γ++CB p3 p5 (fb (r ^^^ b)))→Qx 4 [t0,ptr p3 0,ptr p5 0,t7,t8,t9] H') :
  zdb P true 91 zuk 234881068 [t0,ptr p3 0,ptr p5 0,zib .u8 b,int 0,t7,t8,t9] H Qx Qr:=by
 refine znr (fun k l' H'=>∃ i:Nat,i≤8∧k=8 - i∧l'=[t0,ptr p3 0,ptr p5 0,zib .u8 b,int i,t7,t8,t9]∧St H' (Γ++CB p3 p5 (fun j=>if 31 - j < i then xor (fb r j) (fb b j) else fb r j))) _ _ ?_ 8 _ _ ⟨0,by omega,rfl,rfl,?_⟩
 rotate_left
 ·show St H (Γ++[(p3,⟨bl (fun j=>if 31 - j < 0 then xor (fb r j) (fb b j) else fb r j),true⟩),(p5,⟨bl (fb 3988292384),true⟩)])
  rw[show bl (fun j=>if 31 - j < 0 then xor (fb r j) (fb b j) else fb r j)=bl (fb r) from zHd fun j hj=>if_neg (by omega)]
  exact hO
 clear hO
 rintro k l' H ⟨i,hi,rfl,rfl,hO⟩
 unfold zzq
 try simp only[zla,zma]
 refine zaa zMa ?_
 refine zja (fun h=>?_) (fun h=>?_)
 ·have hi8:i < 8:=by omega
  refine zaa (zae (by omega) (by omega)) ?_
  refine zYM (i:=31 - i) hO (k:=Γ.length+0) (zqa rfl) (by omega) (by omega) ?_
  refine zaa (zax (n:=i) (k':=.i64) rfl (show i≤8 by omega)) ?_
  have hq:b / 2 ^ i≤b:=Nat.div_le_self _ _
  refine zDa (zTy (by omega)) ?_
  refine zaa (zsn (k:=.i64) (b:=2) (by omega)) ?_
  rw[zdO]
  refine zaa zWM ?_
  refine zCN (i:=31 - i) (k:=Γ.length+0) hO (zqa rfl) (by omega) (by omega) ?_
  clear hO
  intro H hO
  replace hO:=hO.set_r
  repeat (first|refine oi ?_|refine ow ?_|refine wy ?_|refine wn ?_|refine wt ?_|refine wf' ?_|refine cy ?_|refine cn ?_)
  refine⟨_,by omega,i+1,by omega,rfl,rfl,?_⟩
  show St H (Γ++[(p3,⟨bl (fun j=>if 31 - j < i+1 then xor (fb r j) (fb b j) else fb r j),true⟩),(p5,⟨bl (fb 3988292384),true⟩)])
  rw[show bl (fun j=>if 31 - j < i+1 then xor (fb r j) (fb b j) else fb r j)=bl (fun j=>if j=31 - i then xor (if 31 - (31 - i) < i then xor (fb r (31 - i)) (fb b (31 - i)) else fb r (31 - i)) (b.testBit i) else if 31 - j < i then xor (fb r j) (fb b j) else fb r j) from zHd fun j hj=>by
   by_cases h2:j=31 - i
   ·subst h2
    rw[if_pos (by omega),if_pos rfl,if_neg (by omega)]
    congr 1
    unfold fb
    congr 1
    omega
   ·rw[if_neg h2]
    by_cases h3:31 - j < i
    ·rw[if_pos h3,if_pos (by omega)]
    ·rw[if_neg h3,if_neg (by omega)]]
  exact hO
 ·have ei:i=8:=by omega
  subst ei
  refine hk H ?_
  show St H (Γ++[(p3,⟨bl (fb (r ^^^ b)),true⟩),(p5,⟨bl (fb 3988292384),true⟩)])
  rw[show bl (fb (r ^^^ b))=bl (fun j=>if 31 - j < 8 then xor (fb r j) (fb b j) else fb r j) from zHd fun j hj=>by
   unfold fb
   rw[Nat.testBit_xor]
   by_cases h3:31 - j < 8
   ·rw[if_pos h3]
   ·rw[if_neg h3,Nat.testBit_lt_two_pow (x:=b) (Nat.lt_of_lt_of_le (show b < 2 ^ 8 from hb) (Nat.pow_le_pow_right (by omega) (by omega)))]
    simp]
  exact hO
end J
set_option maxRecDepth 100000
namespace J
open Go Go.Ab
variable{H:Heap}{Γ Γ0 Γ2 Δ G:List (Nat × Blk)}{K:VH}{v w x:Value}{xs ys bs:List Int}{j p:Nat}{e:Int}
theorem zeO{f:Nat→Bool}{i:Nat}(h:i < 32):zWr 32 1 (zpu P 3).f (agg (bl f)) (int i)=some (b01 (f i)):=by
 rw[show (zpu P 3).f=fun cs off=>atN cs off from by kernel_rfl]
 show (match leB 0 (i:Int) with|true=>(match Nat.blt (i:Int).toNat 32 with|true=>atN (bl f).toArray.toList ((i:Int).toNat * 1)|false=>none)|false=>none)=_
 rw[zhc,decide_eq_true (by omega)]
 have e1:Nat.blt (i:Int).toNat 32=true:=by rw[blt_eq]; exact decide_eq_true (by omega)
 simp only[e1,zUj]
 rw[show (i:Int).toNat * 1=i by omega]
 exact zsA h
theorem zvH{c i:Nat}(h:i < 32):c / 2 ^ (32 - (i+1))=2 * (c / 2 ^ (32 - i))+(c.testBit (31 - i)).toNat:=by
 rw[Nat.testBit_eq_decide_div_mod_eq,show 32 - (i+1)=31 - i by omega,show 32 - i=(31 - i)+1 by omega,Nat.pow_succ,← Nat.div_div_eq_div_mul]
 generalize c / 2 ^ (31 - i)=q
 rcases Nat.mod_two_eq_zero_or_one q with h|h
 ·rw[h]
  show q=2 * (q / 2)+0
  omega
 ·rw[h]
  show q=2 * (q / 2)+1
  omega
theorem zwH{r k:Nat}(hr:r < 4294967296)(hk:k < 32):(4294967295 - r).testBit k=!r.testBit k:=by
 have:=Nat.testBit_two_pow_sub_succ (x:=r) (n:=32) hr k
 rw[show 2 ^ 32 - (r+1)=4294967295 - r by omega,decide_eq_true hk,Bool.true_and] at this
 exact this
theorem zhv(hO:St H Γ)(hv:RdB Γ v bs)(hb:∀ x ∈ bs,0≤x∧x≤255)(hl:bs.length≤1000000000)(hk:∀ H',St H' Γ→K (zib .u32 (zbf 0 bs)) H'):wCall P ztc [v] H K:=by
 apply zMz; unfold zLz
 refine zaa zZJ ?_
 rw[zYJ]
 refine zxa hO ?_
 clear hO
 intro p3 H hO
 refine zoa hO (_+0) (zqa rfl) zBh zBh (zPD _) ?_
 clear hO
 intro H hO
 replace hO:=hO.set_r
 refine zkr (fun k l' H'=>∃ i:Nat,i≤32∧k=32 - i∧l'=[v,.int .u32 0,ptr p3 0,int i]∧St H' (Γ++[(p3,⟨bl (fun j=>decide (j < i)),true⟩)])) _ _ ?_ 32 _ _ ⟨0,by omega,rfl,rfl,hO⟩
 clear hO
 rintro k l' H ⟨i,hi,rfl,rfl,hO⟩
 unfold zwq
 try simp only[zla,zma]
 refine zaa zMa ?_
 refine zja (fun h=>?_) (fun h=>?_)
 ·refine zCN (i:=i) (b:=true) (k:=_+0) hO (zqa rfl) rfl (by omega) ?_
  clear hO
  intro H hO
  replace hO:=hO.set_r
  repeat (first|refine oi ?_|refine ow ?_|refine wy ?_|refine wn ?_|refine wt ?_|refine wf' ?_|refine cy ?_|refine cn ?_)
  refine⟨_,by omega,i+1,by omega,rfl,rfl,?_⟩
  rw[show bl (fun j=>decide (j < i+1))=bl (fun j=>if j=i then true else decide (j < i)) from zHd fun j hj=>by
   by_cases h2:j=i
   ·rw[if_pos h2,decide_eq_true (by omega)]
   ·rw[if_neg h2]; exact decide_eq_decide.2 (by omega)]
  exact hO
 have ei:i=32:=by omega
 subst ei
 clear h hi
 rw[show bl (fun j=>decide (j < 32))=bl (fb 4294967295) from zHd fun j hj=>by
  rw[decide_eq_true hj]
  exact (Nat.testBit_two_pow_sub_one 32 (31 - j)).trans (decide_eq_true (by omega)) |>.symm] at hO
 refine zgb rfl ?_
 try simp only[zla,zma]
 refine zaa zcO ?_
 refine zxa hO ?_
 clear hO
 intro p5 H hO
 refine zoa hO (_+0) (zqa rfl) zBh zBh (zPD _) ?_
 clear hO
 intro H hO
 replace hO:=hO.set_r
 rw[List.append_assoc] at hO
 replace hO:St H (Γ++CB p3 p5 (fb 4294967295)):=hO
 refine zDa hv.lenSl ?_
 refine zlr (fun k l' H'=>∃ y:Nat,y≤bs.length∧k=bs.length - y∧l'=[.int .u32 0,ptr p3 0,ptr p5 0,v,int bs.length,int y]∧St H' (Γ++CB p3 p5 (fb ((bs.take y).foldl zPL 4294967295)))) _ _ ?_ bs.length _ _ ⟨0,by omega,rfl,rfl,hO⟩
 clear hO
 rintro k l' H ⟨y,hy,rfl,rfl,hO⟩
 unfold zxq
 try simp only[zla,zma]
 have hlt:=zOB (bs.take y) 4294967295 (by omega) fun x hx=>hb x (List.mem_of_mem_take hx)
 refine zaa zMa ?_
 refine zja (fun h=>?_) (fun h=>?_)
 ·have hyl:y < bs.length:=by omega
  have hx:=hb _ (List.getElem_mem hyl)
  refine byte_at (n:=y) hO hv.app rfl hyl ?_
  rw[zuf hx.1]
  refine zcN (b:=bs[y].toNat) (by omega) hO ?_
  clear hO
  intro H hO
  refine zgb rfl ?_
  try simp only[zla,zma]
  refine zbN (Nat.xor_lt_two_pow (n:=32) hlt (show bs[y].toNat < 2 ^ 32 by omega)) hO ?_
  clear hO
  intro H hO
  refine zgb rfl ?_
  try simp only[zla,zma]
  repeat (first|refine oi ?_|refine ow ?_|refine wy ?_|refine wn ?_|refine wt ?_|refine wf' ?_|refine cy ?_|refine cn ?_)
  refine⟨_,by omega,y+1,by omega,rfl,rfl,?_⟩
  rw[List.take_succ_eq_append_getElem hyl,List.foldl_append]
  exact hO
 have ey:y=bs.length:=by omega
 subst ey
 rw[List.take_length] at hO hlt
 clear h hy
 refine zgb rfl ?_
 try simp only[zla,zma]
 refine zia hO (Γ.length+0) (zqa rfl) zBh (by omega) ?_
 generalize hr:bs.foldl zPL 4294967295=r at hlt
 have hk:=hk _ hO.left
 unfold zbf at hk
 rw[show 4294967295 - 0=4294967295 from rfl,hr] at hk
 refine zmr (fun k l' H'=>∃ i:Nat,i≤32∧k=32 - i∧l'=[.int .u32 0,zib .u32 ((4294967295 - r) / 2 ^ (32 - i)),agg (bl (fb r)),int i]∧H'=H) _ _ ?_ 32 _ _ ⟨0,by omega,rfl,by rw[show (4294967295 - r) / 2 ^ (32 - 0)=0 from Nat.div_eq_of_lt (by omega)]; rfl,rfl⟩
 rintro k l' H' ⟨i,hi,rfl,rfl,rfl⟩
 unfold zyq
 try simp only[zla,zma]
 refine zaa zMa ?_
 refine zja (fun h=>?_) (fun h=>?_)
 ·have hi32:i < 32:=by omega
  have hs:=zvH (c:=4294967295 - r) hi32
  have hlt2:(4294967295 - r) / 2 ^ (32 - (i+1)) < 4294967296:=Nat.lt_of_le_of_lt (Nat.div_le_self _ _) (by omega)
  refine zaa (zeO hi32) ?_
  refine zaa (zIi (a:=2) rfl) ?_
  refine zaa (v:=zib .i64 (!fb r i).toNat) (by
   rw[zae (by split <;> omega) (by split <;> omega)]
   cases fb r i <;> rfl) ?_
  refine zDa (cvU rfl) ?_
  refine zaa (zrn rfl) ?_
  repeat (first|refine oi ?_|refine ow ?_|refine wy ?_|refine wn ?_|refine wt ?_|refine wf' ?_|refine cy ?_|refine cn ?_)
  refine⟨_,by omega,i+1,by omega,rfl,?_,rfl⟩
  have he:(2 * ((4294967295 - r) / 2 ^ (32 - i)) % szU .u32+(!fb r i).toNat % szU .u32) % szU .u32=(4294967295 - r) / 2 ^ (32 - (i+1)):=?_
  ·rw[he]; rfl
  show (2 * ((4294967295 - r) / 2 ^ (32 - i)) % 4294967296+(!fb r i).toNat % 4294967296) % 4294967296=_
  rw[hs,zwH hlt (by omega)]
  rw[hs,zwH hlt (by omega)] at hlt2
  show (2 * ((4294967295 - r) / 2 ^ (32 - i)) % 4294967296+(!r.testBit (31 - i)).toNat % 4294967296) % 4294967296=_
  omega
 ·have ei:i=32:=by omega
  subst ei
  refine zgb rfl ?_
  try simp only[zla,zma]
  rw[show 32 - 32=0 from rfl,Nat.pow_zero,Nat.div_one]
  exact hk
end J
