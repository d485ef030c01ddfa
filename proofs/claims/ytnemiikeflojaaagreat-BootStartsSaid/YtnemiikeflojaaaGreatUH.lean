/- texts of the proof, one behind the other -/
import Derived.Test.YtnemiikeflojaaaGreatUG
set_option linter.unusedSectionVars false
set_option linter.unusedVariables false
set_option linter.unusedSimpArgs false
set_option maxRecDepth 100000
namespace J
open Go Go.Ab
variable{H:Heap}{Γ Γ0 Γ2 Δ G:List (Nat × Blk)}{K:VH}{v w x:Value}{xs ys bs:List Int}{j p:Nat}{e:Int}
def zRL(b:List Int):List Int:=List.replicate (63 * nCh b.length - b.length) 255
noncomputable def plB(kind seq:Nat)(body:List Int):List Int:=zwl kind seq body++zRL (zwl kind seq body)
def its(p:List Int):Nat→List Int
 | 0=>[]
 | i+1=>its p i++(p.getD i 0::if i % 63=62 then [0] else [])
theorem zRr{b:List Int}:(b++zRL b).length=63 * nCh b.length:=by
 unfold zRL nCh
 rw[List.length_append,List.length_replicate]; omega
theorem zaK{p:List Int}{k:Nat}(h:63 * k+63≤p.length):∀ j,j≤63→its p (63 * k+j)=its p (63 * k)++((p.drop (63 * k)).take j++if j=63 then [0] else [])
 | 0,_=>by rw[List.take_zero]; simp
 | j+1,hj=>by
  have ih:=zaK h j (by omega)
  show its p (63 * k+j)++(p.getD (63 * k+j) 0::if (63 * k+j) % 63=62 then [0] else [])=_
  rw[ih,if_neg (show ¬ j=63 by omega),List.append_nil]
  have hl:63 * k+j < p.length:=by omega
  rw[List.take_succ_eq_append_getElem (by rw[List.length_drop]; omega),List.getElem_drop,List.getD_eq_getElem?_getD,List.getElem?_eq_getElem hl]
  by_cases h2:j=62
  ·rw[if_pos (by omega),if_pos (by omega)]; simp
  ·rw[if_neg (by omega),if_neg (by omega)]; simp
theorem zzL{b:List Int}{k:Nat}(h:k < nCh b.length):zRB ((b.drop (63 * k)).take 63)=((b++zRL b).drop (63 * k)).take 63++[0]:=by
 unfold zRB zRL
 unfold nCh at h
 rw[List.drop_append_of_le_length (by omega),List.take_append,List.take_replicate,List.length_take,List.length_drop]
 unfold nCh
 rw[show 63 - min 63 (b.length - 63 * k)=min (63 - (b.length - 63 * k)) (63 * ((b.length+62) / 63) - b.length) by omega,List.append_assoc]
theorem ztA{b:List Int}:∀ k,k≤nCh b.length→its (b++zRL b) (63 * k)=((zXd b).take k).flatten
 | 0,_=>by simp[its]
 | k+1,h=>by
  rw[zNt (by omega),List.flatten_append,← ztA k (by omega),show 63 * (k+1)=63 * k+63 by omega,zaK (by rw[zRr]; omega) 63 (by omega),if_pos rfl,zzL (by omega)]
  simp
noncomputable def byB(kind seq:Nat)(body:List Int):List Int:=(zXd (zwl kind seq body)).flatten
theorem zxH{kind seq:Nat}{body:List Int}:its (plB kind seq body) (plB kind seq body).length=byB kind seq body:=by
 unfold plB byB
 rw[zRr,ztA _ (Nat.le_refl _),List.take_of_length_le (by rw[zte]; exact Nat.le_refl _)]
set_option maxHeartbeats 1000000 in
theorem zuA{kind seq:Nat}{body:List Int}(hO:St H Γ)(hv:RdB Γ v body)(hb:By body)(hl:body.length≤4000)(hk8:kind < 256)(hs:seq < 2 ^ 64)(hk:MadeB Γ K (plB kind seq body)):wCall P zAg [zib .u8 kind,zib .u64 seq,v] H K:=by
 apply zTu; unfold zvt
 refine zEa hO (zqD _ _ _ _ _) ?_
 clear hO
 intro q H hO
 refine zGG hO (i:=Γ.length+0) (zqa rfl) (by omega) ?_
 refine zEa hO (zti _ _ _) ?_
 clear hO
 intro q2 H hO
 refine zAb (ys:=[(kind:Int)]) (xs:=[66,74]) (cs:=by8 [66,74]) (v:=sl q 0 2 3) hO (.inr ⟨q,.inr ⟨rfl,rfl⟩,rfl,Nat.le_refl _,rfl⟩) (by simp) rfl (.inr rfl) ?_
 clear hO
 intro H v1 c1 hO h1
 refine zSb (size:=8) hO hs (by omega) ?_
 clear hO
 intro H v2 c2 hO h2
 refine zsc hO h1 h2 (by simp[zhb]) ?_
 clear hO
 intro H v3 c3 hO h3
 refine zDa hv.lenSl ?_
 refine zDa (znE (by omega) (by omega)) ?_
 rw[Int.toNat_natCast]
 refine zSb (size:=2) hO (by omega) (by omega) ?_
 clear hO
 intro H v4 c4 hO h4
 refine zsc hO h3 h4 (by simp[zhb]) ?_
 clear hO
 intro H v5 c5 hO h5
 refine zGe hO h5 hv (by simp[zhb]; omega) ?_
 clear hO
 intro H v6 c6 hO h6
 have hby:=zIx (seq:=seq) hk8 hb
 have hln:(([66,74]++[(kind:Int)]++leN 8 seq++leN 2 body.length)++body).length≤5000:=by simp[zhb]; omega
 refine zhv hO h6.rd.app' hby (by omega) ?_
 clear hO
 intro H hO
 have hcl:zbf 0 (([66,74]++[(kind:Int)]++leN 8 seq++leN 2 body.length)++body) < 4294967296:=by unfold zbf; omega
 refine zDa (cvU rfl) ?_
 rw[show zbf 0 (([66,74]++[(kind:Int)]++leN 8 seq++leN 2 body.length)++body) % szU .u64=zbf 0 (([66,74]++[(kind:Int)]++leN 8 seq++leN 2 body.length)++body) from Nat.mod_eq_of_lt (by show _ < 2 ^ 64; omega)]
 refine zSb (size:=4) hO (by omega) (by omega) ?_
 clear hO
 intro H v7 c7 hO h7
 refine zsc hO h6 h7 (by simp[zhb] at hln ⊢; omega) ?_
 clear hO
 intro H v8 c8 hO h8
 replace h8:OwnB v8 (zwl kind seq body) c8:=h8
 have hsl:(zwl kind seq body).length≤4017:=by rw[zYg]; omega
 unfold plB at hk
 generalize zwl kind seq body=b at hk h8 hsl
 have hpl:=zRr (b:=b)
 have hn:63 * nCh b.length≤b.length+62∧b.length≤63 * nCh b.length:=by unfold nCh; omega
 refine zjo (fun k l' H'=>∃ (i:Nat) (v:Value) (cs:List Value),i≤63 * nCh b.length - b.length∧k=63 * nCh b.length - b.length - i∧l'=[zya,v]∧St H' (Γ++zGa v cs)∧OwnB v (b++List.replicate i 255) cs) _ _ ?_ (63 * nCh b.length - b.length) _ _ ⟨0,v8,c8,by omega,rfl,rfl,hO,by simpa using h8⟩
 clear hO h8
 rintro k l' H ⟨i,v,cs,hi,rfl,rfl,hO,h8⟩
 unfold zim
 try simp only[zla,zma]
 refine zDa h8.lenSl ?_
 have hll:(b++List.replicate i (255:Int)).length=b.length+i:=by simp
 refine zaa (zsn (k:=.i64) (b:=63) (by omega)) ?_
 refine zaa zKa ?_
 rw[hll]
 refine zja (fun h=>?_) (fun h=>?_)
 ·have hil:i < 63 * nCh b.length - b.length:=by omega
  refine zEa hO (zti _ _ _) ?_
  clear hO
  intro q3 H hO
  refine zAb (ys:=[255]) hO h8 (by rw[hll]; simp; omega) rfl (.inr rfl) ?_
  clear hO h8
  intro H v' cs' hO h8
  refine⟨_,by omega,i+1,v',cs',by omega,rfl,rfl,hO,?_⟩
  rw[List.replicate_succ',← List.append_assoc]
  exact h8
 ·have ei:i=63 * nCh b.length - b.length:=by
   have hz:(b.length+i) % 63=0:=by omega
   omega
  subst ei
  refine zgb rfl ?_
  try simp only[zla,zma]
  exact hk _ _ _ hO h8
theorem zKq{kind seq:Nat}{body:List Int}(hO:St H Γ)(hv:RdB Γ v body)(hb:By body)(hl:body.length≤4000)(hk8:kind < 256)(hs:seq < 2 ^ 64)(hk:MadeB Γ K (byB kind seq body)):wCall P zPe [zib .u8 kind,zib .u64 seq,v] H K:=by
 apply zPu; unfold zpt
 refine zEa hO (zkm _) ?_
 clear hO
 intro q H hO
 refine zuA hO hv.app hb hl hk8 hs ?_
 clear hO
 intro H vp cp hO hp
 have hpl:(plB kind seq body).length≤5000:=by
  unfold plB
  rw[zRr,zYg]
  unfold nCh; omega
 have hall:=zxH (kind:=kind) (seq:=seq) (body:=body)
 rw[← hall] at hk
 clear hall
 generalize plB kind seq body=pl at hk hp hpl
 refine zDa hp.lenSl ?_
 have hil:∀ i,(its pl i).length≤2 * i:=by
  intro i
  induction i with
  | zero=>exact Nat.le_refl _
  | succ i ih=>
   show (its pl i++(pl.getD i 0::if i % 63=62 then [0] else [])).length≤_
   rw[List.length_append,List.length_cons]
   split <;> simp <;> omega
 have hO2:St H ((Γ++zGa vp cp)++zGa (sl q 0 0 3) []):=hO.perm (by
  rw[List.append_assoc,List.append_assoc]
  exact List.Perm.append_left Γ List.perm_append_comm)
 clear hO
 refine zao (fun k l' H'=>∃ (i:Nat) (v:Value) (cs:List Value),i≤pl.length∧k=pl.length - i∧l'=[zya,v,vp,int pl.length,int i]∧St H' ((Γ++zGa vp cp)++zGa v cs)∧OwnB v (its pl i) cs) _ _ ?_ pl.length _ _ ⟨0,sl q 0 0 3,[],by omega,rfl,rfl,hO2,.inr ⟨q,.inr ⟨rfl,rfl⟩,rfl,Nat.zero_le _,rfl⟩⟩
 clear hO2
 rintro k l' H ⟨i,v,cs,hi,rfl,rfl,hO,h8⟩
 unfold zdm
 try simp only[zla,zma]
 refine zaa zMa ?_
 refine zja (fun h=>?_) (fun h=>?_)
 ·have hlt:i < pl.length:=by omega
  have hi2:=hil i
  refine byte_at (n:=i) hO (hp.rd.app'.app) rfl hlt ?_
  refine zEa hO (zti _ _ _) ?_
  clear hO
  intro q3 H hO
  refine zAb (ys:=[pl[i]]) hO h8 (by simp; omega) rfl (.inr rfl) ?_
  clear hO h8
  intro H v' cs' hO h8
  refine zaa (zsn (k:=.i64) (b:=63) (by omega)) ?_
  refine zaa zfb ?_
  have hg:pl.getD i 0=pl[i]:=by rw[List.getD_eq_getElem?_getD,List.getElem?_eq_getElem hlt]; rfl
  refine zja (fun h2=>?_) (fun h2=>?_)
  ·refine zEa hO (zti _ _ _) ?_
   clear hO
   intro q4 H hO
   refine zAb (ys:=[0]) hO h8 (by simp; omega) rfl (.inr rfl) ?_
   clear hO h8
   intro H v2 cs2 hO h8
   repeat (first|refine oi ?_|refine ow ?_|refine wy ?_|refine wn ?_|refine wt ?_|refine wf' ?_|refine cy ?_|refine cn ?_)
   refine⟨_,by omega,i+1,v2,cs2,by omega,rfl,rfl,hO,?_⟩
   show OwnB v2 (its pl i++(pl.getD i 0::if i % 63=62 then [0] else [])) cs2
   rw[if_pos (by omega),hg]
   simpa using h8
  ·repeat (first|refine oi ?_|refine ow ?_|refine wy ?_|refine wn ?_|refine wt ?_|refine wf' ?_|refine cy ?_|refine cn ?_)
   refine⟨_,by omega,i+1,v',cs',by omega,rfl,rfl,hO,?_⟩
   show OwnB v' (its pl i++(pl.getD i 0::if i % 63=62 then [0] else [])) cs'
   rw[if_neg (by omega),hg]
   exact h8
 ·have ei:i=pl.length:=by omega
  subst ei
  refine zgb rfl ?_
  try simp only[zla,zma]
  exact hk _ _ _ (hO.perm (by
   rw[List.append_assoc,List.append_assoc]
   exact List.Perm.append_left Γ List.perm_append_comm)).left h8
end J
set_option maxRecDepth 100000
namespace J
open Go Go.Ab
variable{H:Heap}{Γ Γ0 Γ2 Δ G:List (Nat × Blk)}{K:VH}{v w x:Value}{xs ys bs:List Int}{j p:Nat}{e:Int}{ss tt:List (List Int)}
theorem S64.tail{s:List Int}(h:S64 (s::ss)):S64 ss:=fun x hx=>h x (List.mem_cons_of_mem _ hx)
theorem zLq:∀ {ss:List (List Int)},S64 ss→ss.flatten.length=64 * ss.length
 | [],_=>rfl
 | s::r,h=>by
  rw[List.flatten_cons,List.length_append,zLq h.tail,h s List.mem_cons_self,List.length_cons]; omega
theorem zyH:∀ {ss:List (List Int)} {y i:Nat},S64 ss→(hy:y < ss.length)→(hi:i < 64)→ss.flatten[64 * y+i]?=ss[y][i]?
 | s::r,0,i,h,_,hi=>by
  rw[List.flatten_cons,List.getElem?_append_left (by rw[h s List.mem_cons_self]; omega),show 64 * 0+i=i by omega]; rfl
 | s::r,y+1,i,h,hy,hi=>by
  have hl:=h s List.mem_cons_self
  rw[List.flatten_cons,List.getElem?_append_right (by rw[hl]; omega),hl,show 64 * (y+1)+i - 64=64 * y+i by omega]
  exact zyH h.tail (by simpa using hy) hi
theorem zzH:∀ {ss:List (List Int)} {n:Nat},S64 ss→ss.flatten.take (64 * n)=(ss.take n).flatten
 | [],n,_=>by simp
 | s::r,0,_=>by simp
 | s::r,n+1,h=>by
  have hl:=h s List.mem_cons_self
  rw[List.flatten_cons,List.take_append,hl,List.take_of_length_le (by rw[hl]; omega),show 64 * (n+1) - 64=64 * n by omega,zzH h.tail,List.take_succ_cons,List.flatten_cons]
theorem zpC:∀ {ss:List (List Int)} {n:Nat},S64 ss→ss.flatten.drop (64 * n)=(ss.drop n).flatten
 | [],n,_=>by simp
 | s::r,0,_=>by simp
 | s::r,n+1,h=>by
  have hl:=h s List.mem_cons_self
  rw[List.flatten_cons,List.drop_append,hl,List.drop_of_length_le (by rw[hl]; omega),show 64 * (n+1) - 64=64 * n by omega,zpC h.tail,List.drop_succ_cons,List.nil_append]
theorem zbK:∀ {ss tt:List (List Int)},S64 ss→S64 tt→ss.flatten=tt.flatten→ss=tt
 | [],[],_,_,_=>rfl
 | [],t::r,_,ht,h=>by
  have:=congrArg List.length h
  rw[zLq ht] at this
  simp at this
 | s::r,[],hs,_,h=>by
  have:=congrArg List.length h
  rw[zLq hs] at this
  simp at this
 | s::r,t::q,hs,ht,h=>by
  rw[List.flatten_cons,List.flatten_cons] at h
  obtain⟨h1,h2⟩:=List.append_inj h (by rw[hs s List.mem_cons_self,ht t List.mem_cons_self])
  rw[h1,zbK hs.tail ht.tail h2]
theorem zdN(h:∀ s ∈ ss,By s):By ss.flatten:=fun x hx=>by
 obtain⟨s,hs,hx⟩:=List.mem_flatten.1 hx
 exact h s hs x hx
def zrJ(s:List Int)(i:Nat):List Int:=s.take i++List.replicate (64 - i) 0
theorem zsJ{s:List Int}{i:Nat}(h:s.length=64)(hi:i≤64):(zrJ s i).length=64:=by
 unfold zrJ
 rw[List.length_append,List.length_take,List.length_replicate]; omega
theorem ztJ{s:List Int}{i:Nat}(h:s.length=64)(hi:i < 64):(by8 (zrJ s i)).set i (.int .u8 (s[i]'(by omega)))=by8 (zrJ s (i+1)):=by
 unfold zrJ by8
 rw[← List.map_set,List.set_append_right _ _ (by rw[List.length_take]; omega),List.length_take,show i - min i s.length=0 by omega,show 64 - i=(64 - (i+1))+1 by omega,List.replicate_succ,List.set_cons_zero,List.take_succ_eq_append_getElem (by omega),List.append_assoc]; rfl
theorem zeN(H:Heap):(zpa P 99 0).f [] H=some (sl H.next 0 0 129,H.push []):=by kernel_rfl
theorem zfO{t1 t2 vb:Value}{y p10:Nat}{s:List Int}{Qx:LX}{Qr:LN}(hv:RdB Γ vb ss.flatten)(hs:S64 ss)(hy:y < ss.length)(hl:ss.length≤1000000)
  (hO:St H (Γ++[(p10,⟨by8 zeros,true⟩)]))
  (hk:∀ H',St H' (Γ++[(p10,⟨by8 ss[y],true⟩)])→Qx 2 [t1,t2,vb,int ((64 * y:Nat):Int),ptr p10 0] H') :
  zdb P true 45 ztk 1984 [t1,t2,vb,int ((64 * y:Nat):Int),ptr p10 0,int 0] H Qx Qr:=by
 have h64:=hs _ (List.getElem_mem hy)
 refine zhr (fun k l' H'=>∃ i:Nat,i≤64∧k=64 - i∧l'=[t1,t2,vb,int ((64 * y:Nat):Int),ptr p10 0,int i]∧St H' (Γ++[(p10,⟨by8 (zrJ ss[y] i),true⟩)])) _ _ ?_ 64 _ _ ⟨0,by omega,rfl,rfl,hO⟩
 clear hO
 rintro k l' H ⟨i,hi,rfl,rfl,hO⟩
 unfold zqq
 try simp only[zla,zma]
 refine zaa zMa ?_
 refine zja (fun h=>?_) (fun h=>?_)
 ·have hi64:i < 64:=by omega
  refine zaa (v:=int ((64 * y+i:Nat):Int)) (by rw[zxb (by omega) (by omega)]; congr 2 <;> omega) ?_
  have hfl:=zLq hs
  have hlt:64 * y+i < ss.flatten.length:=by omega
  refine byte_at (n:=64 * y+i) hO hv.app rfl hlt ?_
  have hg:ss.flatten[64 * y+i]=ss[y][i]'(by omega):=by
   have:=zyH hs hy hi64
   rw[List.getElem?_eq_getElem hlt,List.getElem?_eq_getElem (by omega)] at this
   exact Option.some.inj this
  rw[hg]
  refine zaa (zjb (by omega) (by omega)) ?_
  refine zua hO (Γ.length+0) (zqa rfl) rfl (by rw[zta,zsJ h64 (by omega)]; omega) (show _=by8 (zrJ ss[y] (i+1)) from by rw[show 0+((i:Nat):Int).toNat * 1=i by omega]; exact ztJ h64 hi64) ?_
  clear hO
  intro H hO
  replace hO:=hO.set_r
  repeat (first|refine oi ?_|refine ow ?_|refine wy ?_|refine wn ?_|refine wt ?_|refine wf' ?_|refine cy ?_|refine cn ?_)
  exact⟨_,by omega,i+1,by omega,rfl,rfl,hO⟩
 ·have ei:i=64:=by omega
  subst ei
  refine hk H ?_
  have:zrJ ss[y] 64=ss[y]:=by unfold zrJ; rw[List.take_of_length_le (by omega)]; simp
  rw[this] at hO
  exact hO
theorem zLE{kind seq:Nat}{body:List Int}(hO:St H Γ)(hv:RdB Γ v body)(hb:By body)(hk8:kind < 256)(hs:seq < 2 ^ 64)(hk:zwM Γ K (zih kind seq body)):wCall P zPg [zib .u8 kind,zib .u64 seq,v] H K:=by
 apply zKz; unfold zJz
 refine zEa hO (zeN _) ?_
 clear hO
 intro q H hO
 have hw0:Own 64 (sl q 0 0 129) 0 []:=.inr ⟨q,.inr rfl,rfl⟩
 refine zDa hv.lenSl ?_
 refine zaa zkc ?_
 refine zja (fun h=>?_) (fun h=>?_)
 ·have e1:zih kind seq body=[]:=if_pos (by omega)
  rw[e1] at hk
  exact hk _ _ hO hw0
 have hl:body.length≤4000:=by omega
 rw[zaC hl] at hk
 refine zKq hO hv.app hb hl hk8 hs ?_
 clear hO
 intro H vb cb hO hvb
 unfold byB at hvb
 have hS:S64 (zXd (zwl kind seq body)):=zVz
 have hn:(zXd (zwl kind seq body)).length≤100:=by rw[zte,zYg]; unfold nCh; omega
 generalize zXd (zwl kind seq body)=ss at hk hvb hS hn
 have hfl:=zLq hS
 have hO2:St H ((Γ++zGa vb cb)++zGa (sl q 0 0 129) []):=hO.perm (by
  rw[List.append_assoc,List.append_assoc]
  exact List.Perm.append_left Γ List.perm_append_comm)
 clear hO
 refine zgr (fun k l' H'=>∃ (y:Nat) (w:Value),y≤ss.length∧k=ss.length - y∧l'=[zya,w,vb,int ((64 * y:Nat):Int)]∧St H' ((Γ++zGa vb cb)++zGa w (zgf (ss.take y)))∧Own 64 w y (zgf (ss.take y))) _ _ ?_ ss.length _ _ ⟨0,_,by omega,rfl,rfl,hO2,hw0⟩
 clear hO2 hw0
 rintro k l' H ⟨y,w,hy,rfl,rfl,hO,hw⟩
 unfold zpq
 try simp only[zla,zma]
 refine zDa hvb.lenSl ?_
 refine zaa zMa ?_
 refine zja (fun h=>?_) (fun h=>?_)
 ·have hyl:y < ss.length:=by omega
  refine zaa bS ?_
  rw[zcS]
  refine zxa hO ?_
  clear hO
  intro p10 H hO
  refine zoa hO (_+0) (zqa rfl) (by rw[zta]; rfl) (by rw[zta]; rfl) (ztb _) ?_
  clear hO
  intro H hO
  replace hO:=hO.set_r
  refine zfO (s:=[]) (y:=y) hvb.rd.app'.app hS hyl (by omega) hO ?_
  clear hO
  intro H hO
  refine zgb rfl ?_
  try simp only[zla,zma]
  have h64:=hS _ (List.getElem_mem hyl)
  refine zia hO (_+0) (zqa rfl) (by rw[zta]; exact h64) (by omega) ?_
  have hO2:=hO.left
  clear hO
  refine zEa hO2 (zZK h64 _) ?_
  clear hO2
  intro q2 H hO
  refine zSc hO hw (by rw[zta]; exact h64) (by omega) (ztb _) (by omega) (by omega) ?_
  clear hO hw
  intro w H hO hw
  have e2:zgf (ss.take y)++by8 ss[y]=zgf (ss.take (y+1)):=by
   unfold zgf
   rw[List.take_succ_eq_append_getElem hyl,List.flatMap_append,List.flatMap_cons,List.flatMap_nil,List.append_nil]
  rw[e2] at hO hw
  refine zaa (v:=int ((64 * (y+1):Nat):Int)) (by rw[zxb (by omega) (by omega)]; congr 2 <;> omega) ?_
  exact⟨_,by omega,y+1,w,by omega,rfl,rfl,hO,hw⟩
 ·have ey:y=ss.length:=by omega
  subst ey
  rw[List.take_length] at hO hw
  refine zgb rfl ?_
  try simp only[zla,zma]
  exact hk _ _ (hO.perm (by
   rw[List.append_assoc,List.append_assoc]
   exact List.Perm.append_left Γ List.perm_append_comm)).left hw
end J
set_option maxRecDepth 100000
namespace J
open Go Go.Ab
variable{H:Heap}{Γ Γ0 Γ2 Δ G:List (Nat × Blk)}{K:VH}{v w x:Value}{xs ys bs:List Int}{j p:Nat}{e:Int}{ss tt:List (List Int)}
theorem zVm{n:Int}(hk:K (int (zRb n)) H):wCall P zme [int n] H K:=by
 apply zmx; unfold zRv
 unfold zRb at hk
 refine zwa (fun l' H'=>l'=[int n,int 0]∧H'=H∧0≤n∧n≤4000) ?_ ?_
 ·refine zaa zMa ?_
  refine zja (fun h=>?_) (fun h=>?_)
  ·rw[if_pos (.inl h)] at hk
   refine zaa (zEb h) ?_
   refine zdg rfl ?_
   exact hk
  ·refine zaa zkc ?_
   refine zaa (zQb h) ?_
   refine zja (fun h2=>?_) (fun h2=>?_)
   ·rw[if_pos (.inr h2)] at hk
    exact hk
   ·exact⟨rfl,rfl,by omega,by omega⟩
 rintro l' H' ⟨rfl,rfl,h0,h1⟩
 rw[if_neg (by omega)] at hk
 try simp only[zla,zma]
 refine zfp (fun k l' H2=>∃ i:Nat,i≤(n.toNat+79) / 63∧k=(n.toNat+79) / 63 - i∧l'=[int n,int 0,int i]∧H2=H') _ _ ?_ ((n.toNat+79) / 63) _ _ ⟨0,by omega,rfl,rfl,rfl⟩
 rintro k l' H2 ⟨i,hi,rfl,rfl,rfl⟩
 unfold zPn
 try simp only[zla,zma]
 refine zaa (zon (by omega) (by omega)) ?_
 refine zaa (zxb (by omega) (by omega)) ?_
 refine zaa zMa ?_
 refine zja (fun h=>?_) (fun h=>?_)
 ·repeat (first|refine oi ?_|refine ow ?_|refine wy ?_|refine wn ?_|refine wt ?_|refine wf' ?_|refine cy ?_|refine cn ?_)
  exact⟨_,by omega,i+1,by omega,rfl,rfl,by first|rfl|trivial⟩
 ·have ei:i=(n.toNat+79) / 63:=by omega
  subst ei
  exact hk
def itp(p:List Int):Nat→List Int
 | 0=>[]
 | i+1=>itp p i++if i % 64≠63 then [p.getD i 0] else []
theorem zcK{p:List Int}{k:Nat}(h:64 * k+64≤p.length):∀ j,j≤64→itp p (64 * k+j)=itp p (64 * k)++(p.drop (64 * k)).take (min j 63)
 | 0,_=>by simp
 | j+1,hj=>by
  have ih:=zcK h j (by omega)
  show itp p (64 * k+j)++(if (64 * k+j) % 64≠63 then [p.getD (64 * k+j) 0] else [])=_
  rw[ih]
  have hl:64 * k+j < p.length:=by omega
  by_cases h2:j=63
  ·rw[if_neg (by omega),List.append_nil,h2]; rfl
  ·rw[if_pos (by omega),show min (j+1) 63=j+1 by omega,show min j 63=j by omega,List.take_succ_eq_append_getElem (by rw[List.length_drop]; omega),List.getElem_drop,List.getD_eq_getElem?_getD,List.getElem?_eq_getElem hl]
   simp
theorem zvA(hs:S64 ss):∀ k,k≤ss.length→itp ss.flatten (64 * k)=zZg (ss.take k)
 | 0,_=>rfl
 | k+1,h=>by
  have hl:=zLq hs
  rw[show 64 * (k+1)=64 * k+64 by omega,zcK (by omega) 64 (by omega),zvA hs k (by omega),zpC hs,List.drop_eq_getElem_cons (show k < ss.length by omega),List.flatten_cons,show min 64 63=63 from rfl,List.take_append_of_le_length (by rw[hs _ (List.getElem_mem _)]; omega)]
  unfold zZg
  rw[List.take_succ_eq_append_getElem (show k < ss.length by omega),List.flatMap_append,List.flatMap_cons,List.flatMap_nil,List.append_nil]
theorem zAH{p:List Int}:∀ i,(itp p i).length≤i
 | 0=>Nat.le_refl _
 | i+1=>by
  have:=zAH (p:=p) i
  show (itp p i++_).length≤_
  rw[List.length_append]
  split <;> simp <;> omega
def Smv(Γ:List (Nat × Blk))(v:Value):Prop:=∀ (H H':Heap) (Δ Δ':List (Nat × Blk)),St H (Γ++Δ)→St H' (Γ++Δ')→zrc (zjc H H') (zNa [v])
theorem Smv.app(h:Smv Γ v):Smv (Γ++Δ) v:=fun H H' A B h1 h2=>by
 rw[List.append_assoc] at h1 h2
 exact h H H' _ _ h1 h2
theorem zdK{size:Nat}{v v':Value}{lo hi mx:Option Value}(h:zLa size v lo hi mx=some v'):zNa [v']=zNa [v]∨zNa [v']=[]:=by
 have hr:∀ {a:Option Addr} {l h':Nat} {f:Bool} {n c:Nat},zqc size a l h' f=some v'→zNa [v']=zNa [Value.slice a n c]∨zNa [v']=[]:=by
  intro a l h' f n c hh
  unfold zqc at hh
  split at hh
  ·cases hh; exact .inr rfl
  ·split at hh
   ·cases hh
   ·cases hh; exact .inl rfl
 unfold zLa at h
 split at h
 ·rename_i a len c
  split at h
  ·split at h
   ·split at h
    ·split at h
     ·exact hr h
     ·split at h
      ·exact hr h
      ·cases h
    ·cases h
   ·cases h
  ·cases h
 ·cases h
theorem Smv.slice{lo hi mx:Option Value}{size:Nat}(hv:Smv Γ v)(h:zLa size v lo hi mx=some w):Smv Γ w:=fun H H' A B h1 h2=>by
 rcases zdK h with e|e
 ·rw[e]; exact hv H H' A B h1 h2
 ·rw[e]; rfl
theorem Smv.own{cs:List Value}(h:OwnB v xs cs):Smv (Γ++zGa v cs) v:=fun H H' A B h1 h2=>by
 rcases h with⟨rfl,rfl,rfl⟩|⟨p,hv,h3,h4,h5⟩
 ·rfl
 ·have e:zGa v cs=[(p,⟨cs,true⟩)]:=by rcases hv with rfl|⟨rfl,_⟩ <;> rfl
  rw[e] at h1 h2
  have:=zmb (o:=0) h1 (Γ.length+0) (zza (zqa rfl)) h2 (Γ.length+0) (zza (zqa rfl)) h5
  rcases hv with rfl|⟨rfl,_⟩ <;> exact this
theorem zfN{p o q:Nat}{n c:Nat}{w:Value}(h:p≠q)(hw:∀ i,zRH w=some i→p≠i):zOf (zNa [ptr p o]) (zNa [sl q 0 n c,w]):=by
 have e1:zNa [ptr p o]=[p]:=rfl
 have e2:zNa [sl q 0 n c,w]=q::zNa [w]:=rfl
 rw[e1,e2]
 have hb:∀ {a b:Nat},a≠b→Nat.beq a b=false:=fun {a b} hne=>by
  cases h:Nat.beq a b with
  | false=>rfl
  | true=>exact absurd (Nat.eq_of_beq_eq_true h) hne
 cases hi:zRH w with
 | none=>
  have e3:zNa [w]=[]:=by unfold zNa; rw[List.filterMap_cons,hi]; rfl
  rw[e3]
  unfold zOf zAd
  show cond (not (zRD p [q])) true false=true
  have:zRD p [q]=false:=by
   unfold zRD
   rw[zFb]
   simp[hb h,hb (Ne.symm h)]
  rw[this]; rfl
 | some i=>
  have e3:zNa [w]=[i]:=by unfold zNa; rw[List.filterMap_cons,hi]; rfl
  rw[e3]
  have h2:=hw i hi
  unfold zOf zAd
  show cond (not (zRD p [q,i])) true false=true
  have:zRD p [q,i]=false:=by
   unfold zRD
   rw[zFb]
   simp[hb h,hb (Ne.symm h),hb h2,hb (Ne.symm h2)]
  rw[this]; rfl
end J
set_option maxRecDepth 100000
namespace J
open Go Go.Ab
variable{H:Heap}{Γ Γ0 Γ2 Δ G:List (Nat × Blk)}{K:VH}{v w x:Value}{xs ys bs:List Int}{j p:Nat}{e:Int}{ss tt:List (List Int)}
abbrev MadeG(Γ:List (Nat × Blk))(K:VH)(f:Fr):Prop:=∀ (H':Heap) (v':Value) (cs':List Value),St H' (Γ++zGa v' cs')→OwnB v' f.body cs'→K (.tuple [zib .u8 f.kind,zib .u64 f.seq,v',int ((64 * f.many:Nat):Int)].toArray) H'
theorem MadeG.none(h:MadeG Γ K fr0)(hO:St H Γ):K (.tuple [.int .u8 0,.int .u64 0,zya,.int .i64 0].toArray) H:=h H zya [] (by show St H (Γ++[]); rw[List.append_nil]; exact hO) OwnB.nil
theorem zeK{s r:List Int}(h:s.length=64){a n:Nat}(ha:a+n≤13)(h3:3≤a):((((s++r).drop 3).take 10).drop (a - 3)).take n=(s.drop a).take n:=by
 rw[List.drop_take,List.drop_drop,List.take_take,show 3+(a - 3)=a by omega,show min n (10 - (a - 3))=n by omega,List.drop_append_of_le_length (by omega),List.take_append_of_le_length (by rw[List.length_drop]; omega)]
set_option maxHeartbeats 8000000 in
theorem zME(hO:St H Γ)(hv:RdB Γ v ss.flatten)(hsm:Smv Γ v)(hs:S64 ss)(hb:∀ s ∈ ss,By s)(hl:ss.length≤1000000)(hk:MadeG Γ K (zPd ss)):wCall P zVi [v] H K:=by
 apply zAz; unfold zzz
 have hfl:=zLq hs
 have hfb:=zdN hb
 match ss,hv,hs,hb,hl,hk,hfl,hfb with
 | [],hv,hs,hb,hl,hk,hfl,hfb=>
  refine zsd ?_
  refine zDa hv.lenSl ?_
  refine zaa zMa ?_
  refine zUw (by simp) ?_
  refine zaa (zEb (by simp)) ?_
  refine zaa znc ?_
  try simp only[zla,zma]
  refine zdg rfl ?_
  exact MadeG.none hk hO
 | s::r,hv,hs,hb,hl,hk,hfl,hfb=>
 have hsl:s.length=64:=hs s List.mem_cons_self
 have hsb:By s:=hb s List.mem_cons_self
 have kl:=zLx hsb
 have nl:=zMG hsb
 have ql:=zTB hsb
 have hlen:64≤(s::r).flatten.length:=by rw[hfl,List.length_cons]; omega
 have hg:∀ i,(hi:i < 64)→(s::r).flatten[i]'(by omega)=s[i]'(by omega):=fun i hi=>by
  have:=zyH hs (y:=0) (i:=i) (by simp) hi
  rw[show 64 * 0+i=i by omega,List.getElem?_eq_getElem (by omega),List.getElem?_eq_getElem (by show i < s.length; omega)] at this
  exact Option.some.inj this
 have hs2:s.take 2=[s[0]'(by omega),s[1]'(by omega)]:=by
  match s,hsl with
  | a::b::t,_=>rfl
 refine zwa (fun l' H'=>l'=[v,.int .u8 0,.int .u64 0,zya,int 0,.bool (decide (s.take 2≠[66,74]))]∧H'=H) ?_ ?_
 ·refine zDa hv.lenSl ?_
  refine zaa zMa ?_
  refine zKp (by omega) ?_
  refine byte_at (n:=0) hO hv rfl (by omega) ?_
  rw[hg 0 (by omega)]
  refine zaa zKa ?_
  refine zaa (zQb (by omega)) ?_
  refine zja (fun h=>?_) (fun h=>?_)
  ·refine zaa (zEb h) ?_
   rw[decide_eq_true (show s.take 2≠[66,74] from fun h2=>h (by rw[hs2] at h2; simp at h2; exact h2.1))]
   exact⟨rfl,rfl⟩
  ·refine byte_at (n:=1) hO hv rfl (by omega) ?_
   rw[hg 1 (by omega)]
   refine zaa zKa ?_
   refine zaa (zQb h) ?_
   rw[decide_eq_decide.2 (show s[1]'(by omega)≠74↔s.take 2≠[66,74] from by rw[hs2]; simp at h ⊢; simp[h])]
   exact⟨rfl,rfl⟩
 rintro l' H' ⟨rfl,rfl⟩
 try simp only[zla,zma]
 have hget:zPd (s::r)=if zCD (s::r) s then fr0 else if zih (zah s) (zMr s) (zAk (s::r) s)≠(s::r).take (zRb (zue s)) then fr0 else⟨zah s,zMr s,zAk (s::r) s,zRb (zue s)⟩:=rfl
 rw[hget] at hk
 clear hget
 refine zja (fun h=>?_) (fun h=>?_)
 ·rw[if_pos (show zCD (s::r) s from .inl h)] at hk
  exact MadeG.none hk hO
 obtain⟨v2,e2,i2⟩:=zgl (i:=3) (n:=10) (mx:=none) hv (by omega) (.inl rfl)
 refine zaa e2 ?_
 have r2:=i2 _ hv
 obtain⟨a2,n2,c2,ev2⟩:=r2.shape
 refine zaa (show (zAa P 151).f [(0,v2)]=some (agg [v2,int 0]) by rw[ev2]; exact zZN _ _ _) ?_
 refine zxa hO ?_
 intro pr H hO'
 replace hO':St H (Γ++[(pr,rdr v2 0)]):=hO'
 have t8:=zeK (r:=r.flatten) hsl (a:=3) (n:=8) (by omega) (by omega)
 have t2:=zeK (r:=r.flatten) hsl (a:=11) (n:=2) (by omega) (by omega)
 rw[show 3 - 3=0 from rfl,List.drop_zero] at t8
 rw[show 11 - 3=8 from rfl] at t2
 have hxl:(((s::r).flatten.drop 3).take 10).length=10:=by rw[List.length_take,List.length_drop]; omega
 have hxb:By (((s::r).flatten.drop 3).take 10):=fun x hx=>hfb x (List.mem_of_mem_drop (List.mem_of_mem_take hx))
 rw[List.flatten_cons] at r2 hxl hxb
 generalize ((s++r.flatten).drop 3).take 10=X at r2 hxl hxb t8 t2
 obtain⟨a1,a2',a3⟩:=zDf (xs:=X) (n:=8) (by omega)
 refine zzh (k:=8) (by omega) hO' (zqa (k:=0) rfl) r2.app (by omega) hxb ?_
 rw[a1,a2',t8]
 clear hO'
 intro H v3 hO' i3
 unfold rdN at hO'
 rw[a3,Go.Ab.set_r] at hO'
 replace hO':St H (Γ++[(pr,rdr v3 0)]):=hO'
 have r3:=i3 _ r2
 obtain⟨b1,b2,b3⟩:=zDf (xs:=X.drop 8) (n:=2) (by rw[List.length_drop]; omega)
 refine zzh (k:=2) (by omega) hO' (zqa (k:=0) rfl) r3.app (by rw[List.length_drop]; omega) (fun x hx=>hxb x (List.mem_of_mem_drop hx)) ?_
 rw[b1,b2,t2]
 clear hO'
 intro H v4 hO' i4
 unfold rdN at hO'
 rw[b3,Go.Ab.set_r] at hO'
 replace hO':=hO'.left
 show opW (zob .i64 (zib .u64 (zue s)) H) _
 refine zDa (zTy (by omega)) ?_
 refine zVm ?_
 have hm2:zRb (zue s)≤2000:=by unfold zRb; split <;> omega
 refine zaa (v:=int ((64 * zRb (zue s):Nat):Int)) (by rw[zon (by omega) (by omega)]; congr 2 <;> omega) ?_
 have hlen2:(s::r).flatten.length=64 * (s::r).length:=hfl
 refine zwa (fun l' H2=>l'=[v,.int .u8 0,.int .u64 0,zya,int 0,zib .u64 (zMr s),int (zue s),int ((64 * zRb (zue s):Nat):Int),.bool (decide (zRb (zue s)=0∨(s::r).length < zRb (zue s)))]∧H2=H) ?_ ?_
 ·refine zaa zfb ?_
  refine zja (fun h2=>?_) (fun h2=>?_)
  ·refine zaa (zEb h2) ?_
   rw[decide_eq_true (.inl (by omega))]
   exact⟨rfl,rfl⟩
  ·refine zDa hv.lenSl ?_
   refine zaa zkc ?_
   refine zaa (zQb h2) ?_
   rw[decide_eq_decide.2 (show (((s::r).flatten.length:Nat):Int) < ((64 * zRb (zue s):Nat):Int)↔zRb (zue s)=0∨(s::r).length < zRb (zue s) from by rw[hlen2]; omega)]
   exact⟨rfl,rfl⟩
 rintro l' H2 ⟨rfl,rfl⟩
 try simp only[zla,zma]
 refine zja (fun h2=>?_) (fun h2=>?_)
 ·rw[if_pos (show zCD (s::r) s from .inr h2)] at hk
  exact MadeG.none hk hO'
 rw[if_neg (show ¬ zCD (s::r) s from fun h3=>h3.elim h h2)] at hk
 have hm0:zRb (zue s)≠0:=fun h3=>h2 (.inl h3)
 have hml:zRb (zue s)≤(s::r).length:=by omega
 have hn4:zue s≤4000∧zRb (zue s)=(zue s+79) / 63:=by
  have e:zRb (zue s)=if (zue s:Int) < 0∨4000 < (zue s:Int) then 0 else ((zue s:Int).toNat+79) / 63:=rfl
  by_cases hc:(zue s:Int) < 0∨4000 < (zue s:Int)
  ·rw[if_pos hc] at e; exact absurd e hm0
  ·rw[if_neg hc] at e
   exact⟨by omega,by rw[e]; rfl⟩
 generalize hM:zRb (zue s)=M at *
 refine zEa hO' (zkm _) ?_
 clear hO'
 intro q H hO'
 have hO2:St H (Γ++zGa (sl q 0 0 3) []):=hO'
 clear hO'
 refine zar (fun k l' H'=>∃ (i:Nat) (w:Value) (cs:List Value),i≤64 * M∧k=64 * M - i∧l'=[v,.int .u8 0,.int .u64 0,zya,int 0,zib .u64 (zMr s),int (zue s),int ((64 * M:Nat):Int),w,int i]∧St H' (Γ++zGa w cs)∧OwnB w (itp (s::r).flatten i) cs) _ _ ?_ (64 * M) _ _ ⟨0,_,_,by omega,rfl,rfl,hO2,.inr ⟨q,.inr ⟨rfl,rfl⟩,rfl,Nat.zero_le _,rfl⟩⟩
 clear hO2
 rintro k l' H ⟨i,w,cs,hi,rfl,rfl,hO',hw⟩
 unfold zkq
 try simp only[zla,zma]
 refine zaa zMa ?_
 refine zja (fun h3=>?_) (fun h3=>?_)
 ·have hlt:i < (s::r).flatten.length:=by rw[hlen2]; omega
  have hil:=zAH (p:=(s::r).flatten) i
  have hgd:(s::r).flatten.getD i 0=(s::r).flatten[i]:=by rw[List.getD_eq_getElem?_getD,List.getElem?_eq_getElem hlt]; rfl
  refine zaa (zsn (k:=.i64) (b:=64) (by omega)) ?_
  refine zaa zKa ?_
  refine zja (fun h4=>?_) (fun h4=>?_)
  ·refine byte_at (n:=i) hO' hv.app rfl hlt ?_
   refine zEa hO' (zti _ _ _) ?_
   clear hO'
   intro q3 H hO'
   refine zAb (ys:=[(s::r).flatten[i]]) hO' hw (by show _+1≤_; omega) rfl (.inr rfl) ?_
   clear hO' hw
   intro H w cs hO' hw
   repeat (first|refine oi ?_|refine ow ?_|refine wy ?_|refine wn ?_|refine wt ?_|refine wf' ?_|refine cy ?_|refine cn ?_)
   refine⟨_,by omega,i+1,w,cs,by omega,rfl,rfl,hO',?_⟩
   show OwnB w (itp (s::r).flatten i++(if i % 64≠63 then [(s::r).flatten.getD i 0] else [])) cs
   rw[if_pos (by omega),hgd]
   exact hw
  ·repeat (first|refine oi ?_|refine ow ?_|refine wy ?_|refine wn ?_|refine wt ?_|refine wf' ?_|refine cy ?_|refine cn ?_)
   refine⟨_,by omega,i+1,w,cs,by omega,rfl,rfl,hO',?_⟩
   show OwnB w (itp (s::r).flatten i++(if i % 64≠63 then [(s::r).flatten.getD i 0] else [])) cs
   rw[if_neg (by omega),List.append_nil]
   exact hw
 have ei:i=64 * M:=by omega
 subst ei
 clear h3 hi
 rw[zvA hs M hml] at hw
 have hpl:(zZg ((s::r).take M)).length=M * 63:=by
  rw[ztp (fun x hx=>hs x (List.mem_of_mem_take hx)),List.length_take,Nat.min_eq_left hml]
 have hpb:By (zZg ((s::r).take M)):=fun x hx=>by
  unfold zZg at hx
  obtain⟨t,ht,hx⟩:=List.mem_flatMap.1 hx
  exact hb t (List.mem_of_mem_take ht) x (List.mem_of_mem_take hx)
 have hbody:zAk (s::r) s=((zZg ((s::r).take M)).drop 13).take (zue s):=by unfold zAk; rw[hM]
 rw[hbody] at hk
 generalize zZg ((s::r).take M)=PL at hk hw hpl hpb
 refine zgb rfl ?_
 try simp only[zla,zma]
 refine zaa (v:=int ((13+zue s:Nat):Int)) (by rw[zxb (by omega) (by omega)]; congr 2 <;> omega) ?_
 have hwr:=hw.rd.app' (Γ:=Γ)
 obtain⟨v5,e5,i5⟩:=zgl (i:=13) (n:=zue s) (mx:=none) hwr (by omega) (.inl rfl)
 refine zaa e5 ?_
 have hws:Smv (Γ++zGa w cs) v5:=Smv.slice (Smv.own hw) e5
 have r5:=i5 _ hwr
 have hid5:∀ i,zRH v5=some i→∃ c,zGa w cs=[(i,⟨c,true⟩)]:=fun i hi=>by
  rcases zdK e5 with h6|h6
  ·have h7:zNa [w]=[i]:=by rw[← h6]; unfold zNa; rw[List.filterMap_cons,hi]; rfl
   rcases hw with⟨rfl,_⟩|⟨pw,rfl|⟨rfl,_⟩,_⟩
   ·cases h7
   ·cases h7; exact⟨_,rfl⟩
   ·cases h7; exact⟨_,rfl⟩
  ·have h7:zNa [v5]=[i]:=by unfold zNa; rw[List.filterMap_cons,hi]; rfl
   rw[h6] at h7; cases h7
 have hbl:((PL.drop 13).take (zue s)).length=zue s:=by rw[List.length_take,List.length_drop]; omega
 have hbb:By ((PL.drop 13).take (zue s)):=fun x hx=>hpb x (List.mem_of_mem_drop (List.mem_of_mem_take hx))
 generalize (PL.drop 13).take (zue s)=body at hk r5 hbl hbb
 refine byte_at (n:=2) hO' hv.app rfl (by omega) ?_
 rw[hg 2 (by omega)]
 have hkd:(.int .u8 (s[2]'(by omega)):Value)=zib .u8 (zah s):=by
  have hx:=hsb _ (List.getElem_mem (show 2 < s.length by omega))
  rw[zuf hx.1]
  congr 1
  have:(s.drop 2).take 1=[s[2]'(by omega)]:=by
   rw[List.drop_eq_getElem_cons (by omega)]; rfl
  unfold zah
  rw[this]
  simp[leV]
 rw[hkd]
 have hfp:zih (zah s) (zMr s) body=zXd (zwl (zah s) (zMr s) body):=zaC (by omega)
 refine zKq hO' r5 hbb (by omega) kl ql ?_
 intro H2 v6 c6 hO2 h6
 unfold byB at h6
 rw[← hfp] at h6
 have hby6:By (zih (zah s) (zMr s) body).flatten:=by
  rw[hfp]
  have:=zxH (kind:=zah s) (seq:=zMr s) (body:=body)
  unfold byB at this
  rw[← this]
  have hq:By (plB (zah s) (zMr s) body):=by
   unfold plB
   refine By.app' ?_ ?_
   ·exact By.app' (zIx kl hbb) (zAD _ _)
   ·intro x hx
    have:=(List.mem_replicate.1 hx).2
    omega
  have hq2:∀ n,By (its (plB (zah s) (zMr s) body) n):=by
   intro n
   induction n with
   | zero=>intro x hx; cases hx
   | succ n ih=>
    refine By.app' ih ?_
    intro x hx
    rcases List.mem_cons.1 hx with rfl|hx
    ·rw[List.getD_eq_getElem?_getD]
     by_cases hn:n < (plB (zah s) (zMr s) body).length
     ·rw[List.getElem?_eq_getElem hn]; exact hq _ (List.getElem_mem hn)
     ·rw[List.getElem?_eq_none (by omega)]; decide
    ·split at hx
     ·have:x=0:=by simpa using hx
      omega
     ·cases hx
  exact hq2 _
 refine zDa (h6.rd.app'.str hO2) ?_
 obtain⟨v7,e7,i7⟩:=zzx (n:=64 * M) hv (by rw[hlen2]; omega)
 refine zaa e7 ?_
 have r7:=(i7 _ hv)
 rw[zzH hs] at r7
 have hby7:By ((s::r).take M).flatten:=zdN fun x hx=>hb x (List.mem_of_mem_take hx)
 refine zDa (r7.app.app.str hO2) ?_
 refine⟨(Smv.slice hsm e7) H H2 _ (zGa w cs++zGa v6 c6) hO' (by rw[← List.append_assoc]; exact hO2),?_⟩
 refine zaa (zLG _ _ hby6 hby7) ?_
 have hiff:(zih (zah s) (zMr s) body).flatten≠((s::r).take M).flatten↔zih (zah s) (zMr s) body≠(s::r).take M:=
  not_congr ⟨fun h=>zbK zjj (fun x hx=>hs x (List.mem_of_mem_take hx)) h,fun h=>by rw[h]⟩
 refine zja (fun h3=>?_) (fun h3=>?_)
 ·rw[if_pos (hiff.1 h3)] at hk
  exact MadeG.none hk hO2.left.left
 rw[if_neg (fun h4=>h3 (hiff.2 h4))] at hk
 have hO3:=hO2.left
 clear hO' hO2
 obtain⟨p2,o2,c2,j2,b2,ev,hj2,hc2⟩:=hv.at (i:=2) (by omega)
 subst ev
 refine zaa (zHa (by omega) (by omega)) ?_
 refine zha hO3 j2 (zza hj2) (v:=zib .u8 (zah s)) (by
  rw[show o2+(2:Int).toNat * 1=o2+2 from rfl,hc2,hg 2 (by omega),hkd]) ?_
 refine zEa hO3 (zkm _) ?_
 clear hO3
 intro q4 H hO3
 have hO4:St H ((Γ++zGa w cs)++zGa (sl q4 0 0 3) []):=hO3
 have hne:p2≠q4:=hO3.ne (zza (zza hj2)) (zqa (k:=0) rfl) (by
  have:=(List.getElem?_eq_some_iff.1 hj2).1
  rw[List.length_append]; omega)
 have hne2:∀ i,zRH v5=some i→p2≠i:=fun i hi=>by
  obtain⟨c,hc⟩:=hid5 i hi
  rw[hc] at hO3
  exact hO3.ne (zza (zza hj2)) (zza (zqa (k:=0) rfl)) (by
   have:=(List.getElem?_eq_some_iff.1 hj2).1
   omega)
 refine zGe (xs:=[]) (ys:=body) (cs:=[]) hO4 (.inr ⟨q4,.inr ⟨rfl,rfl⟩,rfl,Nat.le_refl _,rfl⟩) r5 (by show 0+_≤_; omega) ?_
 clear hO3 hO4
 intro H v8 c8 hO4 h8
 refine⟨zfN hne hne2,?_⟩
 exact hk H v8 c8 (St.mid hO4) h8
end J
set_option maxRecDepth 100000
namespace J
open Go Go.Ab
variable{H:Heap}{Γ Γ0 Γ2 Δ G:List (Nat × Blk)}{K:VH}{v w x:Value}{xs ys bs:List Int}{j p:Nat}{e:Int}{d:Dv}{a:Int}{s:List Int}{R:Rl}{m:Mp}{part pos:Int}{M:Rm}
structure Rm.Eq (M M':Rm):Prop where
 m:M'.pm=M.pm
 d:M'.r.pd=M.r.pd
theorem Rm.Eq.rfl'{M:Rm}:Rm.Eq M M:=⟨rfl,rfl⟩
theorem Rm.Eq.trans{M M' M2:Rm}(h:Rm.Eq M M')(h2:Rm.Eq M' M2):Rm.Eq M M2:=⟨h2.m.trans h.m,h2.d.trans h.d⟩
set_option maxHeartbeats 1000000 in
theorem zwA(ok:m.Ok)(hs:m.Sm 1000000)(hM:RMok M m)(hO:St H (Γ++RM M m))
  (hk:∀ H' M',St H' (Γ++RM M' (m.erase part pos).1)→M.Eq M'→RMok M' (m.erase part pos).1→K (int (m.erase part pos).2) H'):wCall P zZi [ptr M.pm 0,int part,int pos] H K:=by
 apply zQu; unfold zqt
 refine zMk ok hM hO ?_
 refine zaa zRh ?_
 refine zaa zSh ?_
 unfold Mp.erase at hk
 refine zwa (fun l' H'=>∃ (M':Rm) (d':Dv) (e':Int),l'=[ptr M.pm 0,int part,int pos,int e']∧St H' (Γ++RM M' { m with d:=d' })∧M.Eq M'∧RMok M' { m with d:=d' }∧((m.place part pos).2≠0∧d'=m.d∧e'=(m.place part pos).2∨(m.place part pos).2=0∧d'=(m.d.erase (m.place part pos).1).1∧e'=(m.d.erase (m.place part pos).1).2)) ?_ ?_
 ·refine zaa zfb ?_
  refine zja (fun h=>?_) (fun h=>?_)
  ·refine zaa zfa ?_
   refine zaa zga ?_
   refine zha hO (Γ.length+0) (zqa rfl) (v:=ptr M.r.pd 0) rfl ?_
   refine zoA ok.d hs.1 hM.r (RM.toD hO) ?_
   clear hO
   intro H R' hO hp hR
   exact⟨{ M with r:=R' },_,_,rfl,RM.dev hp hO,⟨rfl,hp⟩,⟨hR,hM.o,hM.s⟩,.inr ⟨h,rfl,rfl⟩⟩
  ·exact⟨M,m.d,_,rfl,hO,Rm.Eq.rfl',hM,.inl ⟨h,rfl,rfl⟩⟩
 clear hO
 rintro l' H ⟨M',d',e',rfl,hO,he,hM',hc⟩
 try simp only[zla,zma]
 refine zaa zfb ?_
 rw[← he.m]
 refine zja (fun h=>?_) (fun h=>?_)
 ·rcases hc with⟨hp,rfl,rfl⟩|⟨hp,rfl,rfl⟩
  ·exact absurd h hp
  rw[if_neg (by rw[hp]; simp)] at hk
  unfold Mp.note at hk
  simp only[if_pos h] at hk
  refine zaa zfa ?_
  refine zaa zga ?_
  refine zha hO (Γ.length+0) (zqa rfl) (v:=M'.vo) rfl ?_
  refine zaa zfa ?_
  refine zaa zga ?_
  refine zha hO (Γ.length+0) (zqa rfl) (v:=int m.who) rfl ?_
  refine zaa (zyO _ _ _ _) ?_
  refine zEa hO (zQN _ _) ?_
  clear hO
  intro q H hO
  refine znA (by exact Nat.le_trans hs.2 (by omega)) hM' hO ?_
  clear hO
  intro H vo' hv hO
  obtain⟨a1,n1,c1,e1⟩:=zmw hv
  refine zaa zfa ?_
  refine zaa zga ?_
  refine zua hO (Γ.length+0) (zqa rfl) (by rw[e1]; rfl) (show 3 < 4 by omega) rfl ?_
  clear hO
  intro H hO
  replace hO:=hO.set_r
  exact hk H { M' with vo:=vo' } hO ⟨he.m,he.d⟩ ⟨hM'.r,hv,hM'.s⟩
 ·rcases hc with⟨hp,rfl,rfl⟩|⟨hp,rfl,rfl⟩
  ·rw[if_pos hp] at hk
   exact hk H M' hO he hM'
  ·rw[if_neg (by rw[hp]; simp)] at hk
   unfold Mp.note at hk
   simp only[if_neg h] at hk
   exact hk H M' hO he hM'
theorem zxA:(m.erase part pos).1.spans=m.spans:=by
 unfold Mp.erase
 split
 ·rfl
 ·unfold Mp.note
  split <;> rfl
set_option maxHeartbeats 1000000 in
theorem zqC{N:Nat}(ok:m.Ok)(hs:m.Sm N)(hN:N+5000≤1000000)(hM:RMok M m)(hO:St H (Γ++RM M m))
  (hk:∀ H' M',St H' (Γ++RM M' (m.wipe part).1)→M.Eq M'→RMok M' (m.wipe part).1→K (int (m.wipe part).2) H'):wCall P zth [ptr M.pm 0,int part] H K:=by
 apply zpx; unfold zUv
 unfold Mp.wipe at hk
 refine zwa (fun l' H'=>l'=[ptr M.pm 0,int part,int 0]∧H'=H∧m.has part) ?_ ?_
 ·refine zaa zMa ?_
  refine zja (fun h=>?_) (fun h=>?_)
  ·refine zaa (zEb h) ?_
   rw[if_pos (show ¬ m.has part from fun h2=>by have:=h2.1; omega)] at hk
   refine zdg rfl ?_
   exact hk _ M hO Rm.Eq.rfl' hM
  ·refine zaa zfa ?_
   refine zaa zga ?_
   refine zha hO (Γ.length+0) (zqa rfl) (v:=sl M.ps 0 m.spans.length 3) rfl ?_
   refine zDa zWk ?_
   refine zaa zMg ?_
   refine zaa (zQb h) ?_
   refine zja (fun h2=>?_) (fun h2=>?_)
   ·rw[if_pos (show ¬ m.has part from fun h3=>by have:=h3.2; omega)] at hk
    exact hk _ M hO Rm.Eq.rfl' hM
   ·exact⟨rfl,rfl,by omega,by omega⟩
 rintro l' H' ⟨rfl,rfl,h⟩
 try simp only[zla,zma]
 rw[if_neg (fun h'=>h' h)] at hk
 have hsz:m.size part≤4096:=Mp.size_le ok
 have hszr:m.size part=(m.span part).2:=by unfold Mp.size; rw[if_pos h]
 refine zgp (fun k l' H'=>∃ (y:Nat) (M2:Rm) (m2:Mp),y≤m.size part∧k=m.size part - y∧l'=[ptr M.pm 0,int part,int 0,int y]∧M.Eq M2∧m2.spans=m.spans∧m2.Ok∧m2.Sm (N+y)∧St H' (Γ++RM M2 m2)∧RMok M2 m2∧Mp.wipeN part (m.size part) 0 m=Mp.wipeN part (m.size part - y) y m2) _ _ ?_ (m.size part) _ _ ⟨0,M,m,by omega,rfl,rfl,Rm.Eq.rfl',rfl,ok,hs,hO,hM,rfl⟩
 clear hO hM
 rintro k l' H ⟨y,M2,m2,hy,rfl,rfl,he,hsp,ok2,hs2,hO,hM2,hw⟩
 have h2:m2.has part:=by unfold Mp.has; rw[hsp]; exact h
 have hspan:(m2.span part).2=m.size part:=by rw[hszr]; unfold Mp.span; rw[hsp]
 unfold zSn
 try simp only[zla,zma]
 rw[← he.m]
 refine zaa zfa ?_
 refine zaa zga ?_
 refine zha hO (Γ.length+0) (zqa rfl) (v:=sl M2.ps 0 m2.spans.length 3) rfl ?_
 refine zaa (zHa h2.1 h2.2) ?_
 refine zha hO (Γ.length+1) (zqa rfl) (v:=int (m2.span part).2) (by rw[Nat.zero_add,Nat.mul_one]; exact zoC h2) ?_
 rw[hspan]
 refine zaa zMa ?_
 refine zja (fun h1=>?_) (fun h1=>?_)
 ·have hyl:y < m.size part:=by omega
  rw[show m.size part - y=(m.size part - (y+1))+1 by omega] at hw
  rw[Mp.wipeN_succ] at hw
  refine zbu ok2 (hs2.mono (by omega)) hM2 hO ?_
  clear hO
  intro H hO
  have hl:=Mp.read_len ok2 (part:=part) (pos:=(y:Int))
  refine zaa zRh ?_
  refine zaa zSh ?_
  rw[zcS]
  refine zxa hO ?_
  clear hO
  intro p6 H hO
  refine zoa hO (_+0) (zqa rfl) (by rw[zta]; rfl) (by rw[zta]; exact hl) (ztb _) ?_
  clear hO
  intro H hO
  replace hO:=hO.set_r
  refine zia hO (_+0) (zqa rfl) (by rw[zta]; exact hl) (by omega) ?_
  refine zAh hO ?_
  intro H2 hO2
  refine⟨zmb hO (_+0) (zqa rfl) hO2 (_+0) (zqa rfl) (zHg _),?_⟩
  clear hO
  have hO:=hO2.left
  clear hO2
  refine zaa (eqS _ hl rfl) ?_
  refine zja (fun h3=>?_) (fun h3=>?_)
  ·rw[if_pos h3] at hw
   repeat (first|refine oi ?_|refine ow ?_|refine wy ?_|refine wn ?_|refine wt ?_|refine wf' ?_|refine cy ?_|refine cn ?_)
   exact⟨_,by omega,y+1,M2,m2,by omega,rfl,by rw[he.m]; rfl,he,hsp,ok2,hs2.mono (by omega),hO,hM2,hw⟩
  ·rw[if_neg h3] at hw
   refine zwA ok2 (hs2.mono (by omega)) hM2 hO ?_
   clear hO
   intro H M3 hO he3 hM3
   refine zaa zKa ?_
   refine zja (fun h4=>?_) (fun h4=>?_)
   ·rw[if_pos h4] at hw
    try simp only[zla,zma]
    rw[hw] at hk
    exact hk _ M3 hO (he.trans he3) hM3
   ·rw[if_neg h4] at hw
    repeat (first|refine oi ?_|refine ow ?_|refine wy ?_|refine wn ?_|refine wt ?_|refine wf' ?_|refine cy ?_|refine cn ?_)
    exact⟨_,by omega,y+1,M3,_,by omega,rfl,by rw[he.m]; rfl,he.trans he3,zxA.trans hsp,Mp.erase_ok ok2,(Mp.erase_sm hs2).mono (by omega),hO,hM3,hw⟩
 ·have ey:y=m.size part:=by omega
  subst ey
  rw[Nat.sub_self] at hw
  rw[Mp.wipeN_zero] at hw
  rw[hw] at hk
  refine zgb rfl ?_
  try simp only[zla,zma]
  exact hk _ M2 hO he hM2
theorem zrC(hM:RMok M m)(hO:St H (Γ++RM M m))
  (hk:∀ H',St H' ((Γ++zGa M.vo (zwi m.ops))++RM { M with vo:=zya } { m with ops:=[] })→RMok { M with vo:=zya } { m with ops:=[] }→K M.vo H'):wCall P zak [ptr M.pm 0] H K:=by
 apply zfx; unfold zKv
 refine zaa zfa ?_
 refine zaa zga ?_
 refine zha hO (Γ.length+0) (zqa rfl) (v:=M.vo) rfl ?_
 refine zaa zfa ?_
 refine zaa zga ?_
 refine zua hO (Γ.length+0) (zqa rfl) rfl (show 3 < 4 by omega) rfl ?_
 clear hO
 intro H hO
 replace hO:=hO.set_r
 refine hk H ?_ ⟨hM.r,.inl ⟨rfl,rfl,rfl⟩,hM.s⟩
 have h3:St H (Γ++(RMa { M with vo:=zya } { m with ops:=[] }++(zGa M.vo (zwi m.ops)++RW M.r m.d))):=hO
 refine h3.perm ?_
 show (Γ++(RMa _ _++(zGa M.vo (zwi m.ops)++RW M.r m.d))).Perm ((Γ++zGa M.vo (zwi m.ops))++(RMa _ _++([]++RW M.r m.d)))
 exact (by classical exact List.perm_iff_count.2 fun _=>by simp only[List.count_append,List.count_nil,List.set_cons_zero]; omega)
def kOp:List CK:=[.i .i64,.i .i64,.i .i64,.i .i64]
theorem fOp:flatK P 100 121=some kOp:=by kernel_rfl
theorem zAL(o:Op):Fit kOp (opC o):=⟨rfl,rfl,rfl,rfl,trivial⟩
theorem zNO(o:Op)(c:Bool):(zsa P .neq 121 c).f (agg (opC o)) (agg (opC o))=some (.bool false):=by
 rw[zEs fOp (by kernel_rfl) (by kernel_rfl) (zAL o) (zAL o),zPf (zAL o)]; rfl
theorem zsC{v w:Value}{l:List Op}{i1 i2:Nat}(hO:St H Γ)(h1:Own 4 v l.length (zwi l))(h2:Own 4 w l.length (zwi l))(g1:l≠[]→∃ p c,v=sl p 0 l.length c∧Γ[i1]?=some (p,⟨zwi l,true⟩))(g2:l≠[]→∃ p c,w=sl p 0 l.length c∧Γ[i2]?=some (p,⟨zwi l,true⟩))(hl:l.length≤1000000000)(hk:K (.bool true) H):wCall P zrh [v,w] H K:=by
 apply zex; unfold zJv
 refine zDa h1.lenSl ?_
 refine zDa h2.lenSl ?_
 refine zaa zKa ?_
 refine zKp (by simp) ?_
 refine zDa h1.lenSl ?_
 refine zYo (fun k l' H'=>∃ y:Nat,y≤l.length∧k=l.length - y∧l'=[v,w,.bool false,int l.length,int y]∧H'=H) _ _ ?_ l.length _ _ ⟨0,by omega,rfl,rfl,rfl⟩
 rintro k l' H' ⟨y,hy,rfl,rfl,rfl⟩
 unfold zxn
 try simp only[zla,zma]
 refine zaa zMa ?_
 refine zja (fun h=>?_) (fun h=>?_)
 ·have hyl:y < l.length:=by omega
  have hne:l≠[]:=fun h=>by rw[h] at hyl; cases hyl
  obtain⟨p,c,rfl,hp⟩:=g1 hne
  obtain⟨q,c',rfl,hq⟩:=g2 hne
  have hat:((zwi l).drop (0+((y:Nat):Int).toNat * 4)).take 4=opC l[y]:=by
   have:=zNm (f:=opC) (o:=0) (m:=4) (n:=4) (l:=l) (fun _ _=>rfl) hyl (by omega)
   rw[show 0+((y:Nat):Int).toNat * 4=y * 4+0 by omega]
   unfold zwi
   rw[this]; rfl
  refine zaa (zHa (by omega) (by omega)) ?_
  refine zBa hO i1 hp hat rfl (by omega) ?_
  refine zaa (zHa (by omega) (by omega)) ?_
  refine zBa hO i2 hq hat rfl (by omega) ?_
  refine zaa (zNO _ _) ?_
  refine zFe rfl ?_
  repeat (first|refine oi ?_|refine ow ?_|refine wy ?_|refine wn ?_|refine wt ?_|refine wf' ?_|refine cy ?_|refine cn ?_)
  exact⟨_,by omega,y+1,by omega,rfl,rfl,by first|rfl|trivial⟩
 ·have ey:y=l.length:=by omega
  subst ey
  exact hk
end J
set_option maxRecDepth 100000
namespace J
open Go Go.Ab
variable{H:Heap}{Γ Γ0 Γ2 Δ G B:List (Nat × Blk)}{K:VH}{v w x:Value}{xs ys bs:List Int}{j p:Nat}{e:Int}{ss tt:List (List Int)}{m:Mp}{part pos:Int}{M:Rm}{t:Jn}
theorem zOO(H:Heap):(zpa P 110 0).f [] H=some (sl H.next 0 0 3,H.push []):=by kernel_rfl
theorem zPO(l:List Int)(H:Heap):(zpa P 110 1).f [(0,zLp l)] H=some (sl H.next 0 1 3,H.push [zLp l]):=by kernel_rfl
theorem x0{a:Value}{l:List Value}:zNb 0 (.tuple (a::l).toArray)=some a:=rfl
theorem x1{a b:Value}{l:List Value}:zNb 1 (.tuple (a::b::l).toArray)=some b:=rfl
theorem x2{a b c:Value}{l:List Value}:zNb 2 (.tuple (a::b::c::l).toArray)=some c:=rfl
theorem x3{a b c d:Value}{l:List Value}:zNb 3 (.tuple (a::b::c::d::l).toArray)=some d:=rfl
abbrev zou(l:List (List Int)):List Value:=l.map zLp
theorem zuJ:m.all part=(m.secs part).flatten:=by
 unfold Mp.all Mp.upto Mp.secs
 rw[List.flatMap_def]
abbrev Row.want(r:Row):Nat:=if r.bodies=[] then 1 else 2
theorem zyA{vb vo:Value}{Qx:LX}{Qr:LN}(hs:S64 ss)(hb:∀ s ∈ ss,By s)(hl:ss.length≤100000)(hv:RdB B vb ss.flatten)(hsm:Smv B vb)
  (hO:St H (B++zGa vo [])) (ho:Own 1 vo 0 [])
  (hk:∀ H' vo',St H' (B++zGa vo' (zou (zVa ss).bodies))→Own 1 vo' (zVa ss).bodies.length (zou (zVa ss).bodies)→Qr [vo',zib .u64 (zVa ss).first,zib .u64 (zVa ss).last] H') :
  zdb P true 64 zWg 112 [vb,vo,.int .u64 0,.int .u64 0] H Qx Qr:=by
 refine zGm (fun k l' H'=>∃ (tt:List (List Int)) (out:Row) (vc vo:Value),tt.length≤k∧l'=[vc,vo,zib .u64 out.first,zib .u64 out.last]∧S64 tt∧(∀ s ∈ tt,By s)∧RdB B vc tt.flatten∧Smv B vc∧out.bodies.length+tt.length≤100000∧out.first < 2 ^ 64∧out.last < 2 ^ 64∧St H' (B++zGa vo (zou out.bodies))∧Own 1 vo out.bodies.length (zou out.bodies)∧goS out.want tt out=zVa ss) _ _ ?_ ss.length _ _ ⟨ss,zOt,vb,vo,Nat.le_refl _,rfl,hs,hb,hv,hsm,by simpa [zOt] using hl,by decide,by decide,hO,ho,rfl⟩
 clear hO ho hv hsm hs hb
 rintro k l' H ⟨tt,out,vc,vo,hkl,rfl,hs,hb,hv,hsm,hln,hf,hla,hO,ho,hg⟩
 unfold zmk
 try simp only[zla,zma]
 rw[zDD] at hg
 obtain⟨hsq,hkd⟩:=zMx hb
 have hmany:=zBk (ss:=tt)
 refine zME hO hv.app hsm.app hs hb (by omega) ?_
 clear hO
 intro H v6 c6 hO h6
 generalize zPd tt=f at *
 refine zaa x0 ?_
 refine zaa x1 ?_
 refine zaa x2 ?_
 refine zaa x3 ?_
 have stop:znd out.want f out→∀ H',St H' ((B++zGa vo (zou out.bodies))++zGa v6 c6)→Qr [vo,zib .u64 out.first,zib .u64 out.last] H':=fun h H' hO'=>by
  rw[if_pos h] at hg
  rw[← hg] at hk
  exact hk H' vo hO'.left ho
 refine zaa zfb ?_
 refine zja (fun h=>?_) (fun h=>?_)
 ·exact stop (.inl (by omega)) _ hO
 have hm0:f.many≠0:=by omega
 have hml:=hmany hm0
 refine zwa (fun l' H'=>l'=[vc,vo,zib .u64 (zcf out.want f out).first,zib .u64 f.seq,v6,int ((64 * f.many:Nat):Int)]∧H'=H∧¬ znd out.want f out) ?_ ?_
 ·refine zDa ho.lenSl ?_
  refine zaa zfb ?_
  refine zja (fun h2=>?_) (fun h2=>?_)
  ·have hbn:out.bodies=[]:=List.length_eq_zero_iff.1 (by omega)
   have hw1:out.want=1:=if_pos hbn
   refine zaa zKa ?_
   refine zja (fun h3=>?_) (fun h3=>?_)
   ·exact stop (.inr (.inl (by rw[hw1]; omega))) _ hO
   ·refine⟨?_,rfl,?_⟩
    ·rw[hw1]; rfl
    ·rw[hw1]
     rintro (h4|h4|⟨h4,_⟩)
     ·exact hm0 h4
     ·omega
     ·omega
  ·have hbn:out.bodies≠[]:=fun h3=>h2 (by rw[h3]; rfl)
   have hw2:out.want=2:=if_neg hbn
   refine zwa (fun l' H'=>l'=[vc,vo,zib .u64 out.first,zib .u64 out.last,zib .u64 f.seq,v6,int ((64 * f.many:Nat):Int),.bool (decide (f.kind≠2∨f.seq=0∨f.seq - 1≠out.last))]∧H'=H) ?_ ?_
   ·refine zaa zKa ?_
    refine zja (fun h3=>?_) (fun h3=>?_)
    ·refine zaa (zEb h3) ?_
     refine zaa znc ?_
     rw[decide_eq_true (.inl (by omega))]
     exact⟨rfl,rfl⟩
    ·refine zaa zfb ?_
     refine zaa (zQb h3) ?_
     refine zja (fun h4=>?_) (fun h4=>?_)
     ·refine zaa (zEb h4) ?_
      rw[decide_eq_true (.inr (.inl (by omega)))]
      exact⟨rfl,rfl⟩
     ·refine zaa (ziw (b:=1) (by omega) hsq) ?_
      refine zaa zKa ?_
      refine zaa (zQb h4) ?_
      rw[decide_eq_decide.2 (show ((f.seq - 1:Nat):Int)≠(out.last:Int)↔f.kind≠2∨f.seq=0∨f.seq - 1≠out.last by omega)]
      exact⟨rfl,rfl⟩
   rintro l' H' ⟨rfl,rfl⟩
   try simp only[zla,zma]
   refine zja (fun h3=>?_) (fun h3=>?_)
   ·refine stop ?_ _ hO
    rw[hw2]
    rcases h3 with h3|h3|h3
    ·exact .inr (.inl h3)
    ·exact .inr (.inr ⟨rfl,.inl h3⟩)
    ·exact .inr (.inr ⟨rfl,.inr h3⟩)
   ·refine⟨?_,by first|rfl|trivial,?_⟩
    ·rw[hw2]; rfl
    ·rw[hw2]
     rintro (h4|h4|⟨_,h4|h4⟩)
     ·exact hm0 h4
     ·exact h3 (.inl h4)
     ·exact h3 (.inr (.inl h4))
     ·exact h3 (.inr (.inr h4))
 rintro l' H' ⟨rfl,rfl,hns⟩
 try simp only[zla,zma]
 rw[if_neg hns] at hg
 refine zDa (h6.rd.app'.str hO) ?_
 have hO2:=hO.left
 clear hO stop
 refine zEa hO2 (zPO _ _) ?_
 clear hO2
 intro q H hO
 refine zSc hO ho rfl (by omega) rfl (by omega) (by omega) ?_
 clear hO ho
 intro vo' H hO ho
 obtain⟨v7,e7,i7⟩:=zmo (n:=64 * f.many) hv (by rw[zLq hs]; omega)
 refine zaa e7 ?_
 have r7:=i7 _ hv
 rw[zpC hs] at r7
 have ebd:zou out.bodies++[zLp f.body]=zou (zcf out.want f out).bodies:=by
  show _=(out.bodies++[f.body]).map zLp
  rw[List.map_append]; rfl
 rw[ebd] at hO ho
 have hnl:(zcf out.want f out).bodies.length=out.bodies.length+1:=by show (out.bodies++[f.body]).length=_; simp
 have hnw:(zcf out.want f out).want=2:=if_neg (by show out.bodies++[f.body]≠[]; simp)
 refine⟨tt.length - f.many,by omega,tt.drop f.many,zcf out.want f out,v7,vo',by rw[List.length_drop]; exact Nat.le_refl _,rfl,fun s hx=>hs s (List.mem_of_mem_drop hx),fun s hx=>hb s (List.mem_of_mem_drop hx),r7,Smv.slice hsm e7,by rw[hnl,List.length_drop]; omega,?_,hsq,hO,by rw[hnl]; exact ho,by rw[hnw]; exact hg⟩
 show (if out.want=1 then f.seq else out.first) < 2 ^ 64
 split
 ·exact hsq
 ·exact hf
theorem zvo(ok:m.Ok)(hsm:m.Sm 1000000)(hb:∀ s ∈ m.secs part,By s)(hM:RMok M m)(hO:St H (Γ++RM M m))
  (hk:∀ H' vo,St H' ((Γ++zGa vo (zou (zVa (m.secs part)).bodies))++RM M m)→Own 1 vo (zVa (m.secs part)).bodies.length (zou (zVa (m.secs part)).bodies)→K (.tuple [vo,zib .u64 (zVa (m.secs part)).first,zib .u64 (zVa (m.secs part)).last].toArray) H') :
  wCall P zUd [ptr M.pm 0,int part] H K:=by
 apply zbt; unfold zZp
 refine zKE ok hsm hM hO ?_
 clear hO
 intro H vb cb hO hvb
 rw[zuJ] at hvb
 refine zEa hO (zOO _) ?_
 clear hO
 intro q H hO
 have hsz:=Mp.size_le ok (part:=part)
 refine zyA (B:=(Γ++RM M m)++zGa vb cb) (vo:=sl q 0 0 3) (zNG ok) hb (by rw[zkj]; omega) hvb.rd.app' (Smv.own hvb) hO (.inr ⟨q,.inr rfl,rfl⟩) ?_
 clear hO
 intro H vo hO ho
 try simp only[zla,zma]
 refine hk H vo ?_ ho
 have h3:St H ((Γ++RM M m)++zGa vo (zou (zVa (m.secs part)).bodies)):=St.mid hO
 exact h3.rot
end J
set_option maxRecDepth 100000
namespace J
open Go Go.Ab
variable{H:Heap}{Γ Γ0 Γ2 Δ G B:List (Nat × Blk)}{K:VH}{v w x:Value}{xs ys bs body:List Int}{j p qj:Nat}{e:Int}{ss tt:List (List Int)}{m:Mp}{part pos:Int}{M:Rm}{t:Jn}
def jrv(pm:Nat)(t:Jn):List Value:=[ptr pm 0,int t.a,int t.b,int t.now,int t.pos,zib .u64 t.last,.bool t.ready]
abbrev QB(qj pm:Nat)(t:Jn):List (Nat × Blk):=[(qj,⟨jrv pm t,true⟩)]
theorem zey{pm:Nat}{i:Int}(h:i=0∨i=1):(jrv pm t)[1+i.toNat * 1]?=some (int (t.bank i)):=by
 rcases h with rfl|rfl <;> rfl
theorem zQO(pm:Nat)(a b:Int)(l:Nat):(zAa P 148).f [(0,ptr pm 0),(1,agg [int a,int b]),(2,.int .i64 1),(4,zib .u64 l)]=some (agg (jrv pm ⟨a,b,1,l,0,false⟩)):=by kernel_rfl
theorem ztC{a b:Int}(ok:m.Ok)(hsm:m.Sm 1000000)(ha:∀ s ∈ m.secs a,By s)(hb:∀ s ∈ m.secs b,By s)(hM:RMok M m)(hO:St H (Γ++RM M m))
  (hk:∀ H' Δ vb qj,St H' ((((Γ++Δ)++zGa vb (zou (zvc m a b).bodies))++QB qj M.pm (zRm m a b))++RM M m)→Own 1 vb (zvc m a b).bodies.length (zou (zvc m a b).bodies)→K (.tuple [ptr qj 0,vb].toArray) H') :
  wCall P zbk [ptr M.pm 0,int a,int b] H K:=by
 apply zgx; unfold zLv
 refine zvo ok hsm ha hM hO ?_
 clear hO
 intro H vx hO ox
 refine zaa x0 ?_
 refine zaa x1 ?_
 refine zaa x2 ?_
 refine zvo ok hsm hb hM hO ?_
 clear hO
 intro H vy hO oy
 refine zaa x0 ?_
 refine zaa x1 ?_
 refine zaa x2 ?_
 unfold zRm zvc at hk
 generalize zVa (m.secs a)=X at *
 generalize zVa (m.secs b)=Y at *
 refine zaa (zBM _ _) ?_
 refine zaa (zQO _ _ _ _) ?_
 refine zxa hO ?_
 clear hO
 intro qj H hO
 replace hO:St H ((((Γ++zGa vx (zou X.bodies))++zGa vy (zou Y.bodies))++RM M m)++QB qj M.pm ⟨a,b,1,Y.last,0,false⟩):=hO
 replace hO:=hO.rot
 refine zwa (fun l' H'=>l'=[vx,zib .u64 X.last,vy,ptr qj 0,.bool (decide (zEk X Y))]∧H'=H) ?_ ?_
 ·refine zDa oy.lenSl ?_
  refine zaa zfb ?_
  refine zja (fun h=>?_) (fun h=>?_)
  ·refine zDa ox.lenSl ?_
   refine zaa zkc ?_
   refine zaa (zEb h) ?_
   refine zja (fun h2=>?_) (fun h2=>?_)
   ·refine zaa (zEb h2) ?_
    rw[decide_eq_true (show zEk X Y from⟨by omega,.inl (by omega)⟩)]
    exact⟨rfl,rfl⟩
   ·refine zDa ox.lenSl ?_
    refine zaa zkc ?_
    refine zKp h2 ?_
    refine zaa (zQb h2) ?_
    refine zaa (zQb h2) ?_
    rw[decide_eq_false (show ¬ zEk X Y from fun h3=>h2 (by have:=h3.1; omega))]
    exact⟨rfl,rfl⟩
  ·refine zaa (zQb h) ?_
   refine zDa ox.lenSl ?_
   refine zaa zkc ?_
   refine zja (fun h2=>?_) (fun h2=>?_)
   ·refine zaa (zkc (k:=.u64)) ?_
    refine zaa (zEb h2) ?_
    refine zaa zRa ?_
    rw[decide_eq_decide.2 (show (Y.first:Int) < (X.first:Int)↔zEk X Y from by unfold zEk; omega)]
    exact⟨rfl,rfl⟩
   ·refine zaa (zQb h2) ?_
    refine zaa zRa ?_
    rw[decide_eq_false (show ¬ zEk X Y from fun h3=>h2 (by have:=h3.1; omega))]
    exact⟨rfl,rfl⟩
 rintro l' H' ⟨rfl,rfl⟩
 try simp only[zla,zma]
 refine zja (fun h=>?_) (fun h=>?_)
 ·rw[if_pos h,if_pos h] at hk
  refine zaa zfa ?_
  refine zaa zga ?_
  refine zua hO (_+0) (zza (zqa rfl)) rfl (show 3 < 7 by omega) rfl ?_
  clear hO
  intro H hO
  rw[List.set_append_left _ _ (by simp),Go.Ab.set_r] at hO
  refine zaa zfa ?_
  refine zaa zga ?_
  refine zua hO (_+0) (zza (zqa rfl)) rfl (show 5 < 7 by omega) rfl ?_
  clear hO
  intro H hO
  rw[List.set_append_left _ _ (by simp),Go.Ab.set_r] at hO
  replace hO:St H ((((Γ++zGa vx (zou X.bodies))++zGa vy (zou Y.bodies))++QB qj M.pm ⟨a,b,0,X.last,0,false⟩)++RM M m):=hO
  exact hk H (zGa vy (zou Y.bodies)) vx qj (hO.perm (by classical exact List.perm_iff_count.2 fun _=>by simp only[List.count_append,List.count_nil,List.set_cons_zero]; omega)) ox
 ·rw[if_neg h,if_neg h] at hk
  exact hk H' (zGa vx (zou X.bodies)) vy qj hO oy
theorem zuC(ok:m.Ok)(jok:t.Ok)(hb:m.has t.a∧m.has t.b)(hO:St H ((Γ++QB qj M.pm t)++RM M m))(hk:K (int (t.left m)) H):wCall P zek [ptr qj 0] H K:=by
 apply znx; unfold zSv
 refine zaa zfa ?_
 refine zaa zga ?_
 refine zha hO (Γ.length+0) (zza (zqa rfl)) (v:=.bool t.ready) rfl ?_
 refine zaa zyc ?_
 unfold Jn.left at hk
 have hp:=jok.p
 have hsz:=size_le ok (part:=t.bank t.now)
 refine zLb (fun h=>?_) (fun h=>?_)
 ·rw[if_pos (by simpa using h)] at hk
  exact hk
 ·rw[if_neg (by simp at h; simp[h])] at hk
  have hbk:m.has (t.bank t.now):=by
   unfold Jn.bank
   split
   ·exact hb.1
   ·exact hb.2
  have hszr:m.size (t.bank t.now)=(m.span (t.bank t.now)).2:=by unfold Mp.size; rw[if_pos hbk]
  refine zaa zfa ?_
  refine zaa zga ?_
  refine zha hO (Γ.length+0) (zza (zqa rfl)) (v:=ptr M.pm 0) rfl ?_
  refine zaa zfa ?_
  refine zaa zga ?_
  refine zha hO ((Γ++QB qj M.pm t).length+0) (zqa rfl) (v:=sl M.ps 0 m.spans.length 3) rfl ?_
  refine zaa zfa ?_
  refine zaa zga ?_
  refine zha hO (Γ.length+0) (zza (zqa rfl)) (v:=int t.now) rfl ?_
  refine zaa zfa ?_
  refine zaa zga ?_
  refine zaa (zjb (by have:=jok.n; omega) (by have:=jok.n; omega)) ?_
  refine zha hO (Γ.length+0) (zza (zqa rfl)) (by rw[Nat.zero_add]; exact zey jok.n) ?_
  refine zaa (zHa hbk.1 hbk.2) ?_
  refine zha hO ((Γ++QB qj M.pm t).length+1) (zqa rfl) (v:=int (m.span (t.bank t.now)).2) (by rw[Nat.zero_add,Nat.mul_one]; exact zoC hbk) ?_
  rw[← hszr]
  refine zaa zfa ?_
  refine zaa zga ?_
  refine zha hO (Γ.length+0) (zza (zqa rfl)) (v:=int t.pos) rfl ?_
  refine zaa (zae (by omega) (by omega)) ?_
  exact hk
theorem zvC{n:Int}(hb:m.has t.a∧m.has t.b)(hO:St H ((Γ++QB qj M.pm t)++RM M m))(hk:K (.bool (decide (t.fits m n))) H):wCall P zfk [ptr qj 0,int n] H K:=by
 apply zox; unfold zTv
 refine zVm ?_
 have ea:m.size t.a=(m.span t.a).2:=by unfold Mp.size; rw[if_pos hb.1]
 have eb:m.size t.b=(m.span t.b).2:=by unfold Mp.size; rw[if_pos hb.2]
 refine zaa zkc ?_
 refine zja (fun h=>?_) (fun h=>?_)
 ·refine zaa zfa ?_
  refine zaa zga ?_
  refine zha hO (Γ.length+0) (zza (zqa rfl)) (v:=ptr M.pm 0) rfl ?_
  refine zaa zfa ?_
  refine zaa zga ?_
  refine zha hO ((Γ++QB qj M.pm t).length+0) (zqa rfl) (v:=sl M.ps 0 m.spans.length 3) rfl ?_
  refine zaa zfa ?_
  refine zaa zga ?_
  refine zaa (zjb (by omega) (by omega)) ?_
  refine zha hO (Γ.length+0) (zza (zqa rfl)) (v:=int t.a) rfl ?_
  refine zaa (zHa hb.1.1 hb.1.2) ?_
  refine zha hO ((Γ++QB qj M.pm t).length+1) (zqa rfl) (v:=int (m.span t.a).2) (by rw[Nat.zero_add,Nat.mul_one]; exact zoC hb.1) ?_
  rw[← ea]
  refine zaa zRw ?_
  refine zaa (zEb h) ?_
  refine zja (fun h2=>?_) (fun h2=>?_)
  ·refine zaa zfa ?_
   refine zaa zga ?_
   refine zha hO (Γ.length+0) (zza (zqa rfl)) (v:=ptr M.pm 0) rfl ?_
   refine zaa zfa ?_
   refine zaa zga ?_
   refine zha hO ((Γ++QB qj M.pm t).length+0) (zqa rfl) (v:=sl M.ps 0 m.spans.length 3) rfl ?_
   refine zaa zfa ?_
   refine zaa zga ?_
   refine zaa (zjb (by omega) (by omega)) ?_
   refine zha hO (Γ.length+0) (zza (zqa rfl)) (v:=int t.b) rfl ?_
   refine zaa (zHa hb.2.1 hb.2.2) ?_
   refine zha hO ((Γ++QB qj M.pm t).length+1) (zqa rfl) (v:=int (m.span t.b).2) (by rw[Nat.zero_add,Nat.mul_one]; exact zoC hb.2) ?_
   rw[← eb]
   refine zaa zRw ?_
   refine zaa (zEb h2) ?_
   rw[decide_eq_decide.2 (show ((zRb n:Nat):Int)≤((m.size t.b:Nat):Int)↔t.fits m n from by unfold Jn.fits; omega)]
   exact hk
  ·refine zaa (zQb h2) ?_
   rw[decide_eq_false (show ¬ t.fits m n from fun h3=>h2 (by have:=h3.2.1; omega))] at hk
   exact hk
 ·refine zaa (zQb h) ?_
  refine zaa zRa ?_
  rw[decide_eq_false (show ¬ t.fits m n from fun h3=>h (by have:=h3.1; omega))] at hk
  exact hk
theorem zBH(hb:By body):zje (zLp body) H=some (sl H.next 0 body.length 2,H.push (by8 body)):=by
 have e1:((body.map fun n=>UInt8.ofNat n.toNat).map zEh)=by8 body:=by
  rw[List.map_map]
  refine List.map_congr_left fun x hx=>?_
  have:=hb x hx
  show zEh (UInt8.ofNat x.toNat)=_
  unfold zEh
  rw[UInt8.toNat_ofNat',Nat.mod_eq_of_lt (by omega),Int.toNat_of_nonneg this.1]
 have e2:zZf (body.map fun n=>UInt8.ofNat n.toNat)=body.length:=by rw[zSa,List.length_map]
 show zDb ((body.map fun n=>UInt8.ofNat n.toNat).map zEh) (zZf (body.map fun n=>UInt8.ofNat n.toNat)) 2 H=_
 rw[e1,e2]; rfl
theorem zCH:zOF (zLp body) H=some (int body.length,H):=by
 show some (Value.int .i64 (Int.ofNat (zZf (body.map fun n=>UInt8.ofNat n.toNat))),H)=_
 rw[zSa,List.length_map]; rfl
end J
set_option maxRecDepth 100000
namespace J
open Go Go.Ab
variable{H:Heap}{Γ Γ0 Γ2 Δ G B:List (Nat × Blk)}{K:VH}{v w x:Value}{xs ys bs body:List Int}{j p qj:Nat}{e:Int}{ss tt:List (List Int)}{m:Mp}{part pos:Int}{M:Rm}{t:Jn}
theorem zfK{pm:Nat}{t':Jn}{R:List (Nat × Blk)}{c:List Value}(h:St H (((Γ++QB qj pm t)++R).set (Γ.length+0) (qj,⟨c,true⟩)))(hc:c=jrv pm t'):St H ((Γ++QB qj pm t')++R):=by
 rw[List.set_append_left _ _ (by simp),Go.Ab.set_r,hc] at h
 exact h
set_option maxHeartbeats 2000000 in
theorem zMq{bank a:Int}{N kind:Nat}(ok:m.Ok)(hsm:m.Sm N)(hN:N+1000≤1000000)(ha:0≤a∧a≤1000000)(hk8:kind < 256)(hl:t.last+1 < 2 ^ 64)(hb:By body)(hM:RMok M m)(hO:St H ((Γ++QB qj M.pm t)++RM M m))
  (hk:∀ H' M' (n':Nat),M.Eq M'→((zDc bank a (zih kind (t.last+1) body) m).2=0→n'=(zih kind (t.last+1) body).length)→St H' ((Γ++QB qj M'.pm t)++RM M' (zDc bank a (zih kind (t.last+1) body) m).1)→RMok M' (zDc bank a (zih kind (t.last+1) body) m).1→K (.tuple [int n',int (zDc bank a (zih kind (t.last+1) body) m).2].toArray) H') :
  wCall P zMe [ptr qj 0,int bank,int a,zib .u8 kind,zLp body] H K:=by
 apply zLu; unfold zkt
 refine zaa zfa ?_
 refine zaa zga ?_
 refine zha hO (Γ.length+0) (zza (zqa rfl)) (v:=zib .u64 t.last) rfl ?_
 refine zaa (v:=zib .u64 (t.last+1)) (zXB (n:=t.last) hl) ?_
 refine zEa hO (zBH hb) ?_
 clear hO
 intro q H hO
 refine zLE (body:=body) hO (.inr ⟨q,0,2,rfl,.inl rfl,.inr ⟨_+0,_,zqa rfl,by rw[List.drop_zero]; exact List.take_of_length_le (by rw[zta]; omega)⟩⟩) hb hk8 hl ?_
 have hpl:=zDg (body:=body) (kind:=kind) (seq:=t.last+1)
 have hps:=zjj (body:=body) (kind:=kind) (seq:=t.last+1)
 generalize zih kind (t.last+1) body=ss at *
 clear hO
 intro H vl hO hvl
 have hO2:St H (((Γ++zGa vl (zgf ss))++QB qj M.pm t)++RM M m):=(St.left (Δ:=[(q,(⟨by8 body,true⟩:Blk))]) (hO.perm (by classical exact List.perm_iff_count.2 fun _=>by simp only[List.count_append,List.count_nil,List.set_cons_zero]; omega)))
 clear hO
 refine zDa hvl.lenSl ?_
 refine zQn (fun k l' H'=>∃ (y:Nat) (M2:Rm) (m2:Mp),y≤ss.length∧k=ss.length - y∧l'=[ptr qj 0,int bank,int a,int 0,int 0,vl,vl,int ss.length,int y]∧M.Eq M2∧m2.Ok∧m2.Sm (N+y)∧St H' (((Γ++zGa vl (zgf ss))++QB qj M.pm t)++RM M2 m2)∧RMok M2 m2∧zDc bank a ss m=zDc bank (a+y) (ss.drop y) m2) _ _ ?_ ss.length _ _ ⟨0,M,m,by omega,rfl,rfl,Rm.Eq.rfl',ok,hsm,hO2,hM,by simp⟩
 clear hO2 hM
 rintro k l' H ⟨y,M2,m2,hy,rfl,rfl,he,ok2,hs2,hO,hM2,hw⟩
 unfold zZl
 try simp only[zla,zma]
 have fin:∀ {H:Heap} {Δ1 Δ2:List (Nat × Blk)},St H (((Γ++zGa vl (zgf ss))++Δ1)++Δ2)→St H ((Γ++Δ1)++Δ2):=fun h=>h.sub (List.Sublist.append (List.Sublist.append (List.sublist_append_left _ _) (List.Sublist.refl _)) (List.Sublist.refl _))
 refine zaa zMa ?_
 refine zja (fun h1=>?_) (fun h1=>?_)
 ·have hyl:y < ss.length:=by omega
  have hsl:=hps _ (List.getElem_mem hyl)
  rw[List.drop_eq_getElem_cons hyl,zie] at hw
  refine zIG hO hps (RdS.own hvl).app'.app.app hyl ?_
  rw[zcS]
  refine zxa hO ?_
  clear hO
  intro p10 H hO
  refine zoa hO (_+0) (zqa rfl) (by rw[zta]; rfl) (by rw[zta]; exact hsl) (ztb _) ?_
  clear hO
  intro H hO
  replace hO:=hO.set_r
  refine zaa zfa ?_
  refine zaa zga ?_
  refine zha hO ((Γ++zGa vl (zgf ss)).length+0) (zza (zza (zqa rfl))) (v:=ptr M.pm 0) rfl ?_
  refine zaa (zxb (by omega) (by omega)) ?_
  refine zia hO (_+0) (zqa rfl) (by rw[zta]; exact hsl) (by omega) ?_
  rw[← he.m]
  refine zfv ok2 hsl (hs2.mono (by omega)) hM2 hO.left ?_
  clear hO
  intro H M3 hO hm3 hd3 hM3
  have he3:M2.Eq M3:=⟨hm3,hd3⟩
  refine zaa zKa ?_
  refine zja (fun h3=>?_) (fun h3=>?_)
  ·rw[if_pos h3] at hw
   try simp only[zla,zma]
   rw[hw] at hk
   refine hk _ M3 0 (he.trans he3) (fun h4=>absurd h4 h3) ?_ hM3
   rw[hm3,he.m]
   exact fin hO
  ·rw[if_neg h3] at hw
   repeat (first|refine oi ?_|refine ow ?_|refine wy ?_|refine wn ?_|refine wt ?_|refine wf' ?_|refine cy ?_|refine cn ?_)
   refine⟨_,by omega,y+1,M3,_,by omega,rfl,rfl,he.trans he3,Mp.program_ok ok2 hsl,(Mp.program_sm hs2).mono (by omega),?_,hM3,?_⟩
   ·rw[he.m]; exact hO
   ·rw[hw,Int.add_assoc]; rfl
 ·have ey:y=ss.length:=by omega
  subst ey
  rw[List.drop_length,zjw] at hw
  refine zgb rfl ?_
  try simp only[zla,zma]
  refine zDa hvl.lenSl ?_
  refine zaa zfa ?_
  refine zaa zga ?_
  refine zha hO ((Γ++zGa vl (zgf ss)).length+0) (zza (zqa rfl)) (v:=ptr M.pm 0) rfl ?_
  rw[← he.m]
  refine zaa zfa ?_
  refine zaa zga ?_
  refine zha hO (_+0) (zqa rfl) (v:=ptr M2.r.pd 0) rfl ?_
  refine zdu ok2.d (Nat.le_trans hs2.1 (by omega)) hM2.r (RM.toD hO) ?_
  clear hO
  intro H R' hO hp hR
  rw[hw] at hk
  have hO3:=RM.dev (M:=M2) hp hO
  refine hk _ { M2 with r:=R' } ss.length (he.trans ⟨rfl,hp⟩) (fun _=>rfl) ?_ ⟨hR,hM2.o,hM2.s⟩
  have h4:=fin hO3
  rw[← he.m] at h4
  exact h4
theorem zvJ(ok:m.Ok)(hs:m.Sm 1000000)(hM:RMok M m)(hO:St H (Γ++RM M m))
  (hk:∀ H' M',M.Eq M'→St H' (Γ++RM M' m.sync.1)→RMok M' m.sync.1→K (int m.sync.2) H'):wCall P zne [ptr M.r.pd 0] H K:=by
 refine zdu ok.d hs.1 hM.r (RM.toD hO) ?_
 intro H R' hO hp hR
 exact hk _ { M with r:=R' } ⟨rfl,hp⟩ (RM.dev hp hO) ⟨hR,hM.o,hM.s⟩
set_option maxHeartbeats 4000000 in
theorem zzA{N:Nat}(ok:m.Ok)(jok:t.Ok)(hbk:m.has t.a∧m.has t.b)(hsm:m.Sm N)(hN:N+10000≤1000000)(hb:By body)(hM:RMok M m)(hO:St H ((Γ++QB qj M.pm t)++RM M m))
  (hk:∀ H' M',M.Eq M'→St H' ((Γ++QB qj M'.pm (zXc t m body).1)++RM M' (zXc t m body).2.1)→RMok M' (zXc t m body).2.1→K (int (zXc t m body).2.2) H'):wCall P zRi [ptr qj 0,zLp body] H K:=by
 apply zGu; unfold zet
 unfold zXc at hk
 refine zwa (fun l' H'=>l'=[ptr qj 0,zLp body]∧H'=H∧t.room m body.length) ?_ ?_
 ·refine zDa zCH ?_
  refine zvC hbk hO ?_
  refine zaa zyc ?_
  by_cases h:t.fits m body.length
  ·rw[decide_eq_true h]
   refine zFe rfl ?_
   refine zaa zfa ?_
   refine zaa zga ?_
   refine zha hO (Γ.length+0) (zza (zqa rfl)) (v:=zib .u64 t.last) rfl ?_
   refine zaa (zMg (k:=.u64)) ?_
   refine zaa zRa ?_
   refine zja (fun h2=>?_) (fun h2=>?_)
   ·rw[if_pos (show ¬ t.room m body.length from fun h3=>h3 (.inr (by omega)))] at hk
    exact hk _ M Rm.Eq.rfl' hO hM
   ·exact⟨rfl,rfl,fun h3=>by rcases h3 with h3|h3; exact h3 h; omega⟩
  ·rw[decide_eq_false h]
   refine zdg rfl ?_
   refine zaa znc ?_
   refine zdg rfl ?_
   rw[if_pos (show ¬ t.room m body.length from fun h3=>h3 (.inl h))] at hk
   exact hk _ M Rm.Eq.rfl' hO hM
 rintro l' H' ⟨rfl,rfl,hr⟩
 rw[if_neg (fun h=>h hr)] at hk
 unfold Jn.room at hr
 try simp only[zla,zma]
 refine zaa zfa ?_
 refine zaa zga ?_
 refine zua hO (Γ.length+0) (zza (zqa rfl)) rfl (show 6 < 7 by omega) rfl ?_
 clear hO
 intro H hO
 replace hO:St H ((Γ++QB qj M.pm { t with ready:=false })++RM M m):=zfK hO rfl
 refine zaa zfa ?_
 refine zaa zga ?_
 refine zha hO (Γ.length+0) (zza (zqa rfl)) (v:=int t.now) rfl ?_
 have hn:=jok.n
 refine zaa (v:=int (1 - t.now)) (zae (by omega) (by omega)) ?_
 refine zaa zfa ?_
 refine zaa zga ?_
 refine zaa (zjb (by omega) (by omega)) ?_
 refine zha hO (Γ.length+0) (zza (zqa rfl)) (v:=int (t.bank (1 - t.now))) (by rw[Nat.zero_add]; exact zey (t:={ t with ready:=false }) (by omega)) ?_
 refine zaa zfa ?_
 refine zaa zga ?_
 refine zha hO (Γ.length+0) (zza (zqa rfl)) (v:=ptr M.pm 0) rfl ?_
 refine zqC (N:=N) ok hsm (by omega) hM hO ?_
 clear hO
 intro H M1 hO he1 hM1
 simp only at hk
 have w1:=zWB ok hsm (part:=t.bank (1 - t.now))
 have w2:=zup ok (part:=t.bank (1 - t.now))
 generalize m.wipe (t.bank (1 - t.now))=W at *
 rw[← he1.m] at hO
 refine zwa (fun l' H'=>∃ (M2:Rm) (Y:Mp × Int),l'=[ptr qj 0,zLp body,int (t.bank (1 - t.now)),int Y.2]∧M1.Eq M2∧St H' ((Γ++QB qj M2.pm { t with ready:=false })++RM M2 Y.1)∧RMok M2 Y.1∧(W.2≠0∧Y=W∨W.2=0∧Y=W.1.sync)) ?_ ?_
 ·refine zaa zfb ?_
  refine zja (fun h=>?_) (fun h=>?_)
  ·refine zaa zfa ?_
   refine zaa zga ?_
   refine zha hO (Γ.length+0) (zza (zqa rfl)) (v:=ptr M1.pm 0) rfl ?_
   refine zaa zfa ?_
   refine zaa zga ?_
   refine zha hO (_+0) (zqa rfl) (v:=ptr M1.r.pd 0) rfl ?_
   refine zvJ w2 (w1.mono (by omega)) hM1 hO ?_
   clear hO
   intro H M2 he2 hO hM2
   exact⟨M2,_,rfl,he2,by rw[he2.m]; exact hO,hM2,.inr ⟨h,rfl⟩⟩
  ·exact⟨M1,W,rfl,Rm.Eq.rfl',hO,hM1,.inl ⟨h,rfl⟩⟩
 clear hO hM1
 rintro l' H ⟨M2,Y,rfl,he2,hO,hM2,hc⟩
 try simp only[zla,zma]
 refine zaa zKa ?_
 refine zja (fun h=>?_) (fun h=>?_)
 ·rcases hc with⟨h2,rfl⟩|⟨h2,rfl⟩
  ·rw[if_pos h2] at hk
   exact hk _ M2 (he1.trans he2) hO hM2
  ·rw[if_neg (by rw[h2]; simp),if_pos h] at hk
   exact hk _ M2 (he1.trans he2) hO hM2
 rcases hc with⟨h2,rfl⟩|⟨h2,rfl⟩
 ·exact absurd h2 h
 rw[if_neg (by rw[h2]; simp),if_neg h] at hk
 have w3:=Mp.sync_sm w1
 have w4:=Mp.sync_ok w2
 generalize W.1.sync=Y at *
 refine zMq (t:={ t with ready:=false }) (bank:=t.bank (1 - t.now)) (a:=0) (kind:=1) w4 w3 (by omega) (by omega) (by omega) (by show t.last+1 < 2 ^ 64; omega) hb hM2 hO ?_
 clear hO hM2
 intro H M3 n' he3 hn' hO hM3
 have hpl:=zDg (body:=body) (kind:=1) (seq:=t.last+1)
 simp only at hn' hO hM3
 generalize zih 1 (t.last+1) body=l at *
 generalize zDc (t.bank (1 - t.now)) 0 l Y.1=Z at *
 refine zaa zRh ?_
 refine zaa zSh ?_
 refine zaa zfb ?_
 refine zja (fun h3=>?_) (fun h3=>?_)
 rotate_left
 ·rw[if_pos h3] at hk
  exact hk _ M3 ((he1.trans he2).trans he3) hO hM3
 rw[if_neg (fun h4=>h4 h3)] at hk
 have hn':=hn' h3
 subst hn'
 refine zaa zfa ?_
 refine zaa zga ?_
 refine zha hO (Γ.length+0) (zza (zqa rfl)) (v:=int t.now) rfl ?_
 refine zaa (v:=int (1 - t.now)) (zae (by omega) (by omega)) ?_
 refine zaa zfa ?_
 refine zaa zga ?_
 refine zua hO (Γ.length+0) (zza (zqa rfl)) rfl (show 3 < 7 by omega) rfl ?_
 clear hO
 intro H hO
 replace hO:St H ((Γ++QB qj M3.pm { t with ready:=false,now:=1 - t.now })++RM M3 Z.1):=zfK hO rfl
 refine zaa zfa ?_
 refine zaa zga ?_
 refine zha hO (Γ.length+0) (zza (zqa rfl)) (v:=zib .u64 t.last) rfl ?_
 refine zaa (v:=zib .u64 (t.last+1)) (zXB (n:=t.last) (by omega)) ?_
 refine zaa zfa ?_
 refine zaa zga ?_
 refine zua hO (Γ.length+0) (zza (zqa rfl)) rfl (show 5 < 7 by omega) rfl ?_
 clear hO
 intro H hO
 replace hO:St H ((Γ++QB qj M3.pm { t with ready:=false,now:=1 - t.now,last:=t.last+1 })++RM M3 Z.1):=zfK hO rfl
 refine zaa zfa ?_
 refine zaa zga ?_
 refine zua hO (Γ.length+0) (zza (zqa rfl)) rfl (show 4 < 7 by omega) rfl ?_
 clear hO
 intro H hO
 replace hO:St H ((Γ++QB qj M3.pm { t with ready:=false,now:=1 - t.now,last:=t.last+1,pos:=l.length })++RM M3 Z.1):=zfK hO rfl
 refine zaa zfa ?_
 refine zaa zga ?_
 refine zua hO (Γ.length+0) (zza (zqa rfl)) rfl (show 6 < 7 by omega) rfl ?_
 clear hO
 intro H hO
 replace hO:St H ((Γ++QB qj M3.pm { t with ready:=true,now:=1 - t.now,last:=t.last+1,pos:=l.length })++RM M3 Z.1):=zfK hO rfl
 have:=hk H M3 ((he1.trans he2).trans he3) hO hM3
 rw[h3]
 exact this
set_option maxHeartbeats 4000000 in
theorem zfy{N:Nat}(ok:m.Ok)(jok:t.Ok)(hbk:m.has t.a∧m.has t.b)(hsm:m.Sm N)(hN:N+10000≤1000000)(hb:By body)(hM:RMok M m)(hO:St H ((Γ++QB qj M.pm t)++RM M m))
  (hk:∀ H' M',M.Eq M'→St H' ((Γ++QB qj M'.pm (zkb t m body).1)++RM M' (zkb t m body).2.1)→RMok M' (zkb t m body).2.1→K (int (zkb t m body).2.2) H'):wCall P zKh [ptr qj 0,zLp body] H K:=by
 apply zdt; unfold zfq
 unfold zkb at hk
 refine zaa zfa ?_
 refine zaa zga ?_
 refine zha hO (Γ.length+0) (zza (zqa rfl)) (v:=.bool t.ready) rfl ?_
 refine zaa zyc ?_
 refine zLb (fun h0=>?_) (fun h0=>?_)
 ·rw[if_pos (by simpa using h0)] at hk
  exact hk _ M Rm.Eq.rfl' hO hM
 rw[if_neg (by simp at h0; simp[h0])] at hk
 have jl:=jok.l (by simpa using h0)
 have jp:=jok.p
 refine zDa zCH ?_
 refine zVm ?_
 simp only at hk
 have hsz9:=zTG (body:=body) (kind:=2) (seq:=t.last+1)
 rw[← hsz9]
 have hpl:=zDg (body:=body) (kind:=2) (seq:=t.last+1)
 refine zwa (fun l' H'=>l'=[ptr qj 0,zLp body]∧H'=H∧t.more m (zih 2 (t.last+1) body).length) ?_ ?_
 ·refine zaa zfb ?_
  refine zja (fun h=>?_) (fun h=>?_)
  ·rw[if_pos (show ¬ t.more m (zih 2 (t.last+1) body).length from fun h3=>h3 (.inl (by omega)))] at hk
   refine zaa (zEb h) ?_
   refine zaa znc ?_
   refine zdg rfl ?_
   exact hk _ M Rm.Eq.rfl' hO hM
  ·refine zuC ok jok hbk hO ?_
   refine zaa zkc ?_
   refine zaa (zQb h) ?_
   refine zja (fun h2=>?_) (fun h2=>?_)
   ·rw[if_pos (show ¬ t.more m (zih 2 (t.last+1) body).length from fun h3=>h3 (.inr (.inl h2)))] at hk
    refine zaa (zEb h2) ?_
    refine zdg rfl ?_
    exact hk _ M Rm.Eq.rfl' hO hM
   ·refine zaa zfa ?_
    refine zaa zga ?_
    refine zha hO (Γ.length+0) (zza (zqa rfl)) (v:=zib .u64 t.last) rfl ?_
    refine zaa (zMg (k:=.u64)) ?_
    refine zaa (zQb h2) ?_
    refine zja (fun h3=>?_) (fun h3=>?_)
    ·rw[if_pos (show ¬ t.more m (zih 2 (t.last+1) body).length from fun h4=>h4 (.inr (.inr (by omega))))] at hk
     exact hk _ M Rm.Eq.rfl' hO hM
    ·exact⟨rfl,rfl,fun h4=>by rcases h4 with h4|h4|h4; exact h (by omega); exact h2 h4; exact h3 (by omega)⟩
 rintro l' H' ⟨rfl,rfl,hr⟩
 rw[if_neg (fun h=>h hr)] at hk
 unfold Jn.more at hr
 have hleft:t.left m=m.size (t.bank t.now) - t.pos:=if_neg (by simp at h0; simp[h0])
 have hsz:=size_le ok (part:=t.bank t.now)
 try simp only[zla,zma]
 refine zaa zfa ?_
 refine zaa zga ?_
 refine zha hO (Γ.length+0) (zza (zqa rfl)) (v:=int t.now) rfl ?_
 refine zaa zfa ?_
 refine zaa zga ?_
 refine zaa (zjb (by have:=jok.n; omega) (by have:=jok.n; omega)) ?_
 refine zha hO (Γ.length+0) (zza (zqa rfl)) (v:=int (t.bank t.now)) (by rw[Nat.zero_add]; exact zey jok.n) ?_
 refine zaa zfa ?_
 refine zaa zga ?_
 refine zha hO (Γ.length+0) (zza (zqa rfl)) (v:=int t.pos) rfl ?_
 refine zMq (t:=t) (bank:=t.bank t.now) (a:=t.pos) (kind:=2) ok hsm (by omega) jp (by omega) (by omega) hb hM hO ?_
 clear hO hM
 intro H M3 n' he3 hn' hO hM3
 generalize zih 2 (t.last+1) body=l at *
 generalize zDc (t.bank t.now) t.pos l m=Z at *
 refine zaa zRh ?_
 refine zaa zSh ?_
 refine zaa zKa ?_
 refine zja (fun h=>?_) (fun h=>?_)
 ·rw[if_pos h] at hk
  refine zaa zfa ?_
  refine zaa zga ?_
  refine zua hO (Γ.length+0) (zza (zqa rfl)) rfl (show 6 < 7 by omega) rfl ?_
  clear hO
  intro H hO
  replace hO:St H ((Γ++QB qj M3.pm { t with ready:=false })++RM M3 Z.1):=zfK hO rfl
  exact hk _ M3 he3 hO hM3
 rw[if_neg h] at hk
 have hn':=hn' (Decidable.not_not.1 h)
 subst hn'
 refine zaa zfa ?_
 refine zaa zga ?_
 refine zha hO (Γ.length+0) (zza (zqa rfl)) (v:=zib .u64 t.last) rfl ?_
 refine zaa (v:=zib .u64 (t.last+1)) (zXB (n:=t.last) (by omega)) ?_
 refine zaa zfa ?_
 refine zaa zga ?_
 refine zua hO (Γ.length+0) (zza (zqa rfl)) rfl (show 5 < 7 by omega) rfl ?_
 clear hO
 intro H hO
 replace hO:St H ((Γ++QB qj M3.pm { t with last:=t.last+1 })++RM M3 Z.1):=zfK hO rfl
 refine zaa zfa ?_
 refine zaa zga ?_
 refine zha hO (Γ.length+0) (zza (zqa rfl)) (v:=int t.pos) rfl ?_
 refine zaa (zxb (by omega) (by omega)) ?_
 refine zaa zfa ?_
 refine zaa zga ?_
 refine zua hO (Γ.length+0) (zza (zqa rfl)) rfl (show 4 < 7 by omega) rfl ?_
 clear hO
 intro H hO
 replace hO:St H ((Γ++QB qj M3.pm { t with last:=t.last+1,pos:=t.pos+l.length })++RM M3 Z.1):=zfK hO rfl
 exact hk _ M3 he3 hO hM3
end J
set_option maxRecDepth 100000
namespace J
open Go Go.Ab
variable{H:Heap}{Γ Γ0 Γ2 Δ G B:List (Nat × Blk)}{K:VH}{v w x:Value}{xs ys bs body:List Int}{j p qj qs:Nat}{e:Int}{ss tt bb:List (List Int)}{m:Mp}{part pos:Int}{M:Rm}{jn:Jn}{t first:Tb}{l:List Ch}
theorem zBL(qj:Nat)(t:Tb):(zAa P 64).f [(0,ptr qj 0),(1,agg (tbC t))]=some (agg (ptr qj 0::tbC t)):=by kernel_rfl
theorem zCL{t':Tb}{R:List (Nat × Blk)}{c:List Value}(h:St H (((Γ++SB qs qj t)++R).set (Γ.length+0) (qs,⟨c,true⟩)))(hc:c=ptr qj 0::tbC t'):St H ((Γ++SB qs qj t')++R):=by
 rw[List.set_append_left _ _ (by simp),Go.Ab.set_r,hc] at h
 exact h
theorem zQD{q n:Nat}(hn:n=body.length):ArgW (Γ++[(q,(⟨by8 body,true⟩:Blk))]) (sl q 0 n 2) body:=by
 subst hn
 exact .inr ⟨q,_+0,true,rfl,zqa rfl⟩
set_option maxHeartbeats 4000000 in
theorem zwJ{G:List (Nat × Blk)}{vb:Value}{jv2:Nat}{wv:Bool}{Qx:LX}{Qr:LN}(hv:(vb=zya∧bb=[])∨∃ p c,vb=sl p 0 bb.length c∧G[jv2]?=some (p,⟨zou bb,wv⟩))(hb:∀ b ∈ bb,By b)(hl:bb.length≤1000)(hx:∀ b ∈ bb,b.length≤1000000)
  (hO:St H (G++SB qs qj first))
  (hk:∀ H',St H' (G++SB qs qj (zQd bb first))→Qx 0 [.pointer none,ptr qs 0] H'∧Qr [ptr qs 0,ptr qs 0] H') :
  zdb P true 81 zcj 2304 [.pointer none,ptr qs 0,vb,int bb.length,int 0] H Qx Qr:=by
 refine zXo (fun k l' H'=>∃ (y:Nat) (cur:Tb),y≤bb.length∧k=bb.length - y∧l'=[.pointer none,ptr qs 0,vb,int bb.length,int y]∧St H' (G++SB qs qj cur)∧(y=0∧cur=first∨0 < y∧zQd bb first=tGo cur (bb.drop y))) _ _ ?_ bb.length _ _ ⟨0,first,by omega,rfl,rfl,hO,.inl ⟨rfl,rfl⟩⟩
 clear hO
 rintro k l' H ⟨y,cur,hy,rfl,rfl,hO,hc⟩
 unfold zun
 try simp only[zla,zma]
 refine zaa zMa ?_
 refine zja (fun h=>?_) (fun h=>?_)
 ·have hyl:y < bb.length:=by omega
  have hby:=hb _ (List.getElem_mem hyl)
  have hxl:=hx _ (List.getElem_mem hyl)
  obtain⟨pv,cv,rfl,hj⟩:∃ p c,vb=sl p 0 bb.length c∧G[jv2]?=some (p,⟨zou bb,wv⟩):=by
   rcases hv with⟨_,rfl⟩|h
   ·simp at hyl
   ·exact h
  refine zaa (zHa (by omega) (by omega)) ?_
  refine zha hO jv2 (zza hj) (v:=zLp bb[y]) (by
   rw[show 0+((y:Nat):Int).toNat * 1=y by omega]
   simp[hyl]) ?_
  refine zaa zfb ?_
  refine zja (fun h2=>?_) (fun h2=>?_)
  ·have hy0:y=0:=by omega
   subst hy0
   have hcf:cur=first:=by rcases hc with h|h; exact h.2; exact absurd h.1 (by omega)
   rw[hcf] at hO
   clear hc hcf cur
   obtain⟨b,r,rfl⟩:∃ b r,bb=b::r:=by
    match bb,hyl with
    | b::r,_=>exact⟨b,r,rfl⟩
   have hrep:zQd (b::r) first=if (zzd b).2≠0 then first else tGo (zzd b).1 r:=rfl
   refine zEa hO (zBH hby) ?_
   clear hO
   intro q H hO
   refine zvr (bs:=b) hO (zQD rfl) hxl hby ?_
   clear hO
   intro H hO
   refine zaa zRh ?_
   refine zaa zSh ?_
   rw[zdH]
   refine zxa hO ?_
   clear hO
   intro p14 H hO
   refine zoa hO (_+0) (zqa rfl) rfl rfl rfl ?_
   clear hO
   intro H hO
   replace hO:=hO.set_r
   refine zaa zKa ?_
   refine zja (fun h3=>?_) (fun h3=>?_)
   ·rw[hrep,if_pos h3] at hk
    exact (hk _ hO.left.left).2
   ·refine zia hO (_+0) (zqa rfl) rfl (by omega) ?_
    refine zaa zfa ?_
    refine zaa zga ?_
    replace hO:St H ((G++SB qs qj first)++([(q,⟨by8 b,true⟩)]++[(p14,⟨tbC (zzd b).1,true⟩)])):=by rw[← List.append_assoc]; exact hO
    refine zgc hO (G.length+0) (zza (zqa rfl)) rfl (show 0+1+75≤(ptr qj 0::tbC first).length from Nat.le_refl _) rfl ?_
    clear hO
    intro H hO
    replace hO:St H ((G++SB qs qj (zzd b).1)++_):=zCL hO rfl
    repeat (first|refine oi ?_|refine ow ?_|refine wy ?_|refine wn ?_|refine wt ?_|refine wf' ?_|refine cy ?_|refine cn ?_)
    refine⟨_,by omega,0+1,(zzd b).1,by omega,rfl,rfl,hO.left,.inr ⟨by omega,?_⟩⟩
    rw[hrep,if_neg h3]; rfl
  ·have hy0:0 < y:=by omega
   have hrep:zQd bb first=tGo cur (bb.drop y):=by rcases hc with h|h; exact absurd h.1 (by omega); exact h.2
   rw[List.drop_eq_getElem_cons hyl,zby,zjH hby] at hrep
   have hgl:=zKD bb[y] hby
   rw[zjH hby] at hgl
   refine zEa hO (zBH hby) ?_
   clear hO
   intro q H hO
   refine zdv (bs:=bb[y]) hO (zQD rfl) hxl hby ?_
   clear hO
   intro H vg hO og
   refine zaa zRh ?_
   refine zaa zSh ?_
   refine zaa zfa ?_
   refine zaa zga ?_
   refine zBa hO (G.length+0) (zza (zza (zqa rfl))) (show _=tbC cur from rfl) rfl (by omega) ?_
   refine zFj hO (RdC.own og).app' (by omega) ?_
   clear hO
   intro H hO
   refine zaa zRh ?_
   refine zaa zSh ?_
   rw[zdH]
   refine zxa hO ?_
   clear hO
   intro p18 H hO
   refine zoa hO (_+0) (zqa rfl) rfl rfl rfl ?_
   clear hO
   intro H hO
   replace hO:=hO.set_r
   generalize zhH bb[y]=GR at *
   refine zwa (fun l' H'=>l'=[.pointer none,ptr qs 0,ptr p18 0,sl pv 0 bb.length cv,int bb.length,int y,.bool (decide (GR.2≠0∨(zZa cur GR.1).2≠0))]∧H'=H) ?_ ?_
   ·refine zaa zKa ?_
    refine zja (fun h3=>?_) (fun h3=>?_)
    ·refine zaa (zEb h3) ?_
     rw[decide_eq_true (.inl h3)]
     exact⟨rfl,rfl⟩
    ·refine zaa zKa ?_
     refine zaa (zQb h3) ?_
     rw[decide_eq_decide.2 (show (zZa cur GR.1).2≠0↔GR.2≠0∨(zZa cur GR.1).2≠0 from⟨.inr,fun h=>h.elim (fun h=>absurd h h3) id⟩)]
     exact⟨rfl,rfl⟩
   rintro l' H' ⟨rfl,rfl⟩
   try simp only[zla,zma]
   refine zja (fun h3=>?_) (fun h3=>?_)
   ·have:zQd bb first=cur:=by
     rw[hrep]
     rcases h3 with h3|h3
     ·rw[if_pos h3]
     ·by_cases h4:GR.2≠0
      ·rw[if_pos h4]
      ·rw[if_neg h4,if_pos h3]
    rw[this] at hk
    exact (hk _ hO.left.left.left).2
   ·refine zia hO (_+0) (zqa rfl) rfl (by omega) ?_
    refine zaa zfa ?_
    refine zaa zga ?_
    replace hO:St H' ((G++SB qs qj cur)++([(q,⟨by8 bb[y],true⟩)]++(zGa vg (chs GR.1)++[(p18,⟨tbC (zZa cur GR.1).1,true⟩)]))):=by
     rw[← List.append_assoc,← List.append_assoc]; exact hO
    refine zgc hO (G.length+0) (zza (zqa rfl)) rfl (show 0+1+75≤(ptr qj 0::tbC cur).length from Nat.le_refl _) rfl ?_
    clear hO
    intro H hO
    replace hO:St H ((G++SB qs qj (zZa cur GR.1).1)++_):=zCL hO rfl
    repeat (first|refine oi ?_|refine ow ?_|refine wy ?_|refine wn ?_|refine wt ?_|refine wf' ?_|refine cy ?_|refine cn ?_)
    refine⟨_,by omega,y+1,(zZa cur GR.1).1,by omega,rfl,rfl,hO.left,.inr ⟨by omega,?_⟩⟩
    rw[hrep,if_neg (fun h=>h3 (.inl h)),if_neg (fun h=>h3 (.inr h))]
 ·have ey:y=bb.length:=by omega
  subst ey
  have:zQd bb first=cur:=by
   rcases hc with⟨h1,rfl⟩|⟨_,h2⟩
   ·rw[List.length_eq_zero_iff.1 h1]; rfl
   ·rw[h2,List.drop_length]; rfl
  rw[this] at hk
  exact (hk _ hO).1
theorem zAA(ok:m.Ok)(hsm:m.Sm 1000000)(h0:∀ s ∈ m.secs 0,By s)(h1:∀ s ∈ m.secs 1,By s)(hbb:∀ x ∈ (zvc m 0 1).bodies,By x)(hbl:(zvc m 0 1).bodies.length≤1000)(hbx:∀ x ∈ (zvc m 0 1).bodies,x.length≤1000000)(hM:RMok M m)(hO:St H (Γ++RM M m))
  (hk:∀ H' Δ qs qj,St H' ((((Γ++Δ)++SB qs qj (zQd (zvc m 0 1).bodies first))++QB qj M.pm (zRm m 0 1))++RM M m)→K (ptr qs 0) H'):wCall P zqh [ptr M.pm 0,int 0,int 1,agg (tbC first)] H K:=by
 apply zcx; unfold zHv
 refine zxa hO ?_
 clear hO
 intro p7 H hO
 replace hO:St H ((Γ++RM M m)++[(p7,⟨tbC first,true⟩)]):=hO
 replace hO:=hO.rot
 refine ztC ok hsm h0 h1 hM hO ?_
 clear hO
 intro H Δ vb qj hO ob
 refine zaa zRh ?_
 refine zaa zSh ?_
 refine zia hO (Γ.length+0) (zza (zza (zza (zza (zqa rfl))))) rfl (by omega) ?_
 generalize (zvc m 0 1).bodies=bb at *
 refine zaa (zBL _ _) ?_
 refine zxa hO ?_
 clear hO
 intro qs H hO
 replace hO:St H ((((((Γ++[(p7,⟨tbC first,true⟩)])++Δ)++zGa vb (zou bb))++QB qj M.pm (zRm m 0 1))++RM M m)++SB qs qj first):=hO
 refine zDa ob.lenSl ?_
 refine zwJ (jv2:=((Γ++[(p7,(⟨tbC first,true⟩:Blk))])++Δ).length+0) (wv:=true) ?_ hbb hbl hbx hO ?_
 ·rcases ob with⟨rfl,h,_⟩|⟨p,h,_⟩
  ·exact .inl ⟨rfl,List.length_eq_zero_iff.1 h⟩
  ·right
   rcases h with rfl|rfl
   ·exact⟨p,_,rfl,zza (zza (zqa rfl))⟩
   ·exact⟨p,_,rfl,zza (zza (zqa rfl))⟩
 intro H' hO'
 have h5:=hk H' ([(p7,⟨tbC first,true⟩)]++(Δ++zGa vb (zou bb))) qs qj (hO'.perm (by classical exact List.perm_iff_count.2 fun _=>by simp only[List.count_append,List.count_nil,List.set_cons_zero]; omega))
 exact⟨h5,h5⟩
set_option maxHeartbeats 4000000 in
theorem zNE{N:Nat}(ok:m.Ok)(jok:jn.Ok)(hbk:m.has jn.a∧m.has jn.b)(hsm:m.Sm N)(hN:N+20000≤1000000)(hv:RdC Γ v l)(hl:l.length≤1000)(hver:∀ c ∈ l,0≤c.ver)(hf:(zZa t l).2=0→0≤(zZa t l).1.flo)(hb1:By (lBy l))(hb2:(zZa t l).2=0→By (tBy (zZa t l).1))(hM:RMok M m)
  (hO:St H (((Γ++SB qs qj t)++QB qj M.pm jn)++RM M m))
  (hk:∀ H' M',M.Eq M'→St H' (((Γ++SB qs qj (tDo t jn m l).1)++QB qj M'.pm (tDo t jn m l).2.1)++RM M' (tDo t jn m l).2.2.1)→RMok M' (tDo t jn m l).2.2.1→K (int (tDo t jn m l).2.2.2) H') :
  wCall P zUo [ptr qs 0,v] H K:=by
 apply zzB; unfold zhD
 unfold tDo at hk
 refine zaa zfa ?_
 refine zaa zga ?_
 refine zBa hO (Γ.length+0) (zza (zza (zqa rfl))) (show _=tbC t from rfl) rfl (by omega) ?_
 refine zFj hO hv.app.app.app (by omega) ?_
 clear hO
 intro H hO
 refine zaa zRh ?_
 refine zaa zSh ?_
 rw[zdH]
 refine zxa hO ?_
 clear hO
 intro p5 H hO
 refine zoa hO (_+0) (zqa rfl) rfl rfl rfl ?_
 clear hO
 intro H hO
 replace hO:=hO.set_r
 replace hO:St H ((((Γ++[(p5,⟨tbC (zZa t l).1,true⟩)])++SB qs qj t)++QB qj M.pm jn)++RM M m):=hO.perm (by classical exact List.perm_iff_count.2 fun _=>by simp only[List.count_append,List.count_nil,List.set_cons_zero]; omega)
 have hvG:=hv.app (Δ:=[(p5,(⟨tbC (zZa t l).1,true⟩:Blk))])
 have i5:(Γ++[(p5,(⟨tbC (zZa t l).1,true⟩:Blk))])[Γ.length+0]?=some (p5,⟨tbC (zZa t l).1,true⟩):=zqa rfl
 have fin:∀ {H:Heap} {A B C:List (Nat × Blk)},St H ((((Γ++[(p5,⟨tbC (zZa t l).1,true⟩)])++A)++B)++C)→St H (((Γ++A)++B)++C):=fun h=>h.sub (List.Sublist.append (List.Sublist.append (List.Sublist.append (List.sublist_append_left _ _) (List.Sublist.refl _)) (List.Sublist.refl _)) (List.Sublist.refl _))
 generalize Γ++[(p5,(⟨tbC (zZa t l).1,true⟩:Blk))]=G at hO hvG i5 fin
 refine zaa zKa ?_
 refine zja (fun h=>?_) (fun h=>?_)
 ·rw[if_pos h] at hk
  exact hk _ M Rm.Eq.rfl' (fin hO) hM
 rw[if_neg h] at hk
 have h0:=Decidable.not_not.1 h
 rw[h0]
 generalize hnx:(zZa t l).1=next at *
 have hf:=hf h0
 have hb2:=hb2 h0
 have htl:(tBy next).length≤1000000:=by
  by_cases h:TRight next
  ·rw[zkH h]; omega
  ·rw[zlH h]; simp
 refine zaa zfa ?_
 refine zaa zga ?_
 refine zha hO (G.length+0) (zza (zza (zqa rfl))) (v:=ptr qj 0) rfl ?_
 refine zaa zfa ?_
 refine zaa zga ?_
 refine zha hO ((G++SB qs qj t).length+0) (zza (zqa rfl)) (v:=.bool jn.ready) rfl ?_
 refine zaa zyc ?_
 refine zwa (fun l' H'=>∃ (M2:Rm) (R:Jn × Mp × Int) (an:Bool),l'=[ptr qs 0,ptr p5 0,int R.2.2,.bool an]∧M.Eq M2∧St H' (((G++SB qs qj t)++QB qj M2.pm R.1)++RM M2 R.2.1)∧RMok M2 R.2.1∧(an=true∧R.1=jn∧R.2.1=m∧¬ (jn.ready=true∧(zkb jn m (lBy l)).2.2≠92)∨an=false∧R=zkb jn m (lBy l)∧jn.ready=true∧(zkb jn m (lBy l)).2.2≠92)) ?_ ?_
 ·refine zaa zyc ?_
  rw[Bool.not_not]
  refine zLb (fun h2=>?_) (fun h2=>?_)
  ·refine zaa zfa ?_
   refine zaa zga ?_
   refine zha hO (G.length+0) (zza (zza (zqa rfl))) (v:=ptr qj 0) rfl ?_
   refine znm hO hvG.app.app.app hl hver ?_
   intro H2 vp cp hO2 hp
   refine⟨zmb hO (G.length+0) (zza (zza (zqa rfl))) hO2 (G.length+0) (zza (zza (zza (zqa rfl)))) rfl,?_⟩
   clear hO
   refine zDa (hp.rd.app'.str hO2) ?_
   refine zfy ok jok hbk hsm (by omega) hb1 hM hO2.left ?_
   clear hO2
   intro H3 M3 he3 hO3 hM3
   refine zaa zfb ?_
   by_cases h3:(zkb jn m (lBy l)).2.2=92
   ·have hfu:=zYt h3 (fun a l=>zcy l _ _)
    rw[decide_eq_true h3]
    exact⟨M3,_,true,rfl,he3,hO3,hM3,.inl ⟨rfl,hfu.1,hfu.2,fun h4=>h4.2 h3⟩⟩
   ·rw[decide_eq_false h3]
    exact⟨M3,_,false,rfl,he3,hO3,hM3,.inr ⟨rfl,rfl,h2,h3⟩⟩
  ·refine⟨M,(jn,m,0),_,rfl,Rm.Eq.rfl',hO,hM,.inl ⟨by rw[h2]; rfl,rfl,rfl,fun h4=>by rw[h2] at h4; cases h4.1⟩⟩
 clear hO hM
 rintro l' H ⟨M2,R,an,rfl,he2,hO,hM2,hc⟩
 try simp only[zla,zma]
 refine zwa (fun l' H'=>∃ (M3:Rm),l'=[ptr qs 0,ptr p5 0,int (zeh jn m next l).2.2]∧M.Eq M3∧St H' (((G++SB qs qj t)++QB qj M3.pm (zeh jn m next l).1)++RM M3 (zeh jn m next l).2.1)∧RMok M3 (zeh jn m next l).2.1) ?_ ?_
 ·rcases hc with⟨rfl,hR1,hR2,hn⟩|⟨rfl,rfl,hr,hn⟩
  ·have ek:zeh jn m next l=zXc jn m (tBy next):=if_neg hn
   rw[ek]
   rw[hR1,hR2] at hO
   rw[hR2] at hM2
   refine zdg rfl ?_
   refine zaa zfa ?_
   refine zaa zga ?_
   refine zha hO (G.length+0) (zza (zza (zqa rfl))) (v:=ptr qj 0) rfl ?_
   refine zia hO (Γ.length+0) (zza (zza (zza i5))) rfl (by omega) ?_
   refine zur hO hf ?_
   intro H2 vp cp hO2 hp
   refine⟨zmb hO (G.length+0) (zza (zza (zqa rfl))) hO2 (G.length+0) (zza (zza (zza (zqa rfl)))) rfl,?_⟩
   clear hO
   refine zDa (hp.rd.app'.str hO2) ?_
   refine zzA ok jok hbk hsm (by omega) hb2 hM2 hO2.left ?_
   clear hO2
   intro H3 M3 he3 hO3 hM3
   exact⟨M3,rfl,he2.trans he3,hO3,hM3⟩
  ·have ek:zeh jn m next l=zkb jn m (lBy l):=if_pos ⟨hr,hn⟩
   rw[ek]
   refine zFe rfl ?_
   exact⟨M2,rfl,he2,hO,hM2⟩
 clear hO hM2 hc
 rintro l' H ⟨M3,rfl,he3,hO,hM3⟩
 try simp only[zla,zma]
 generalize zeh jn m next l=R at *
 refine zaa zfb ?_
 refine zja (fun h2=>?_) (fun h2=>?_)
 ·rw[if_neg (fun h=>h h2)] at hk
  refine zia hO (Γ.length+0) (zza (zza (zza i5))) rfl (by omega) ?_
  refine zaa zfa ?_
  refine zaa zga ?_
  rw[List.append_assoc (G++SB qs qj t)] at hO
  refine zgc hO (G.length+0) (zza (zqa rfl)) rfl (show 0+1+75≤(ptr qj 0::tbC t).length from Nat.le_refl _) rfl ?_
  clear hO
  intro H hO
  replace hO:St H ((G++SB qs qj next)++_):=zCL hO rfl
  rw[← List.append_assoc (G++SB qs qj next)] at hO
  rw[h2]
  exact hk _ M3 he3 (fin hO) hM3
 ·rw[if_pos h2] at hk
  exact hk _ M3 he3 (fin hO) hM3
end J
set_option maxRecDepth 100000
namespace J
open Go Go.Ab
variable{H:Heap}{Γ Γ0 Γ2 Δ M G:List (Nat × Blk)}{K:VH}{v w x:Value}{xs ys bs body:List Int}{j p:Nat}{e:Int}{ss tt bb:List (List Int)}
variable{L:Mloc}{m:Mp}{s:List Int}{pj ps A B k:Nat}{jn:Jn}{vals cs:List Value}{t next first:Tb}{l:List Ch}
def kT:List CK:=kS++(kS++[.i .i64,.i .i64,.i .u64])
theorem f37:flatK P 100 30=some kT:=by kernel_rfl
theorem zgO(t:Tb):Fit kT (tbC t):=Fit.join (zQL t.a) (Fit.join (zQL t.b) ⟨rfl,rfl,rfl,trivial⟩)
theorem zhO{t t':Tb}(h:tbC t=tbC t')(c:Bool):(zsa P .neq 30 c).f (agg (tbC t)) (agg (tbC t'))=some (.bool false):=by
 rw[h]
 rw[zEs f37 (by kernel_rfl) (by kernel_rfl) (zgO t') (zgO t'),zPf (zgO t')]; rfl
def mt(A B:Nat):Mp:=⟨Dv.new 60 10000,spansFrom 0 [A,B],0,[]⟩
theorem zgN(hs:A+B≤60):Two (mt A B) A B:=⟨⟨[],by show (0,A)::(0+A,B)::[]=_; rw[Nat.zero_add]⟩,by show A+B≤(List.replicate 60 zlf).length; rw[List.length_replicate]; omega⟩
theorem ziO(hs:A+B≤60):(mt A B).Ok:=by
 have e:(mt A B).d.cells.length=60:=List.length_replicate
 refine⟨Dv.new_ok (by omega) (by omega),fun x hx=>?_,by show 2≤16; omega⟩
 rw[e]
 have hx:x ∈ [(0,A),(0+A,B)]:=hx
 simp at hx
 rcases hx with rfl|rfl <;> simp <;> omega
theorem zwC{n:Int}(hO:St H (Γ++MW L m))(hk:∀ H',St H' (Γ++MW L { m with d:=m.d.limit n })→K (.tuple [].toArray) H'):wCall P zoc [ptr L.pd 0,int n] H K:=by
 refine zQz (MW.toD hO) ?_
 intro H' h
 exact hk H' (MW.ofD (L:=L) (m:={ m with d:=m.d.limit n }) h)
theorem zgy{ks:List Int}(ok:m.d.Ok)(hd:m.d.done.length≤1000000)(hO:St H (Γ++MW L m))(hv:Mown L m)(hw:RdB Γ w ks)(hb:By ks)
  (hk:∀ H',St H' (Γ++MW { L with vd:=zya } { m with d:=m.d.restart ks })→Mown { L with vd:=zya } { m with d:=m.d.restart ks }→K (.tuple [].toArray) H'):wCall P zqb [ptr L.pd 0,w] H K:=by
 refine zFx ok hd (MW.toD hO) hv.d hw.app.app hb ?_
 intro H' h
 exact hk H' (MW.ofD (L:={ L with vd:=zya }) (m:={ m with d:=m.d.restart ks }) h) ⟨.inl ⟨rfl,rfl,rfl⟩,hv.o⟩
theorem SInv.mono{k':Nat}{mays:List Tb}(h:SInv A B k t jn m mays)(hk:k≤k'):SInv A B k' t jn m mays:=by
 obtain⟨b,mb,hi,h2,h3⟩:=h.i
 exact⟨h.r,h.w,h.mr,b,mb,hi.mono hk,h2,h3⟩
structure Act where
 kind:Int
 n:Int
 vc:Value
 chs:List Ch
 vk:Value
 kept:List Int
def zDN(a:Act):List Value:=[int a.kind,int a.n,a.vc,a.vk]
def ArgB(Γ:List (Nat × Blk))(v:Value)(xs:List Int):Prop:=(v=zya∧xs=[])∨∃ (p j:Nat),v=sl p 0 xs.length 2∧Γ[j]?=some (p,(⟨by8 xs,false⟩:Blk))
theorem ArgB.rd(h:ArgB Γ v xs):RdB Γ v xs:=by
 rcases h with h|⟨p,j,h1,h2⟩
 ·exact .inl h
 ·exact .inr ⟨p,0,2,h1,.inl rfl,.inr ⟨j,_,h2,by rw[List.drop_zero]; exact List.take_of_length_le (by rw[zta]; omega)⟩⟩
theorem ArgB.app(h:ArgB Γ v xs):ArgB (Γ++Δ) v xs:=by
 rcases h with h|⟨p,j,h1,h2⟩
 ·exact .inl h
 ·exact .inr ⟨p,j,h1,zza h2⟩
theorem zgK(h:ArgB Δ v xs):ArgB (Γ++Δ) v xs:=by
 rcases h with h|⟨p,j,h1,h2⟩
 ·exact .inl h
 ·exact .inr ⟨p,Γ.length+j,h1,zqa h2⟩
def ArgC(Γ:List (Nat × Blk))(v:Value)(l:List Ch):Prop:=(v=zya∧l=[])∨∃ (p j:Nat),v=sl p 0 l.length 80∧Γ[j]?=some (p,(⟨chs l,false⟩:Blk))
theorem ArgC.rd(h:ArgC Γ v l):RdC Γ v l:=by
 rcases h with⟨rfl,rfl⟩|⟨p,j,rfl,h⟩
 ·exact⟨rfl,.inl rfl⟩
 ·exact⟨rfl,.inr ⟨p,80,j,rfl,false,h⟩⟩
theorem ArgC.app(h:ArgC Γ v l):ArgC (Γ++Δ) v l:=by
 rcases h with h|⟨p,j,h1,h2⟩
 ·exact .inl h
 ·exact .inr ⟨p,j,h1,zza h2⟩
theorem zhN(h:ArgC Δ v l):ArgC (Γ++Δ) v l:=by
 rcases h with h|⟨p,j,h1,h2⟩
 ·exact .inl h
 ·exact .inr ⟨p,Γ.length+j,h1,zqa h2⟩
structure Act.Rd (Γ:List (Nat × Blk)) (a:Act):Prop where
 c:ArgC Γ a.vc a.chs
 cb:∀ c ∈ a.chs,CBy c
 k:ArgB Γ a.vk a.kept
 kb:By a.kept
 n:a.n≤9223372036854775807
theorem Act.Rd.app{a:Act}(h:a.Rd Γ):a.Rd (Γ++Δ):=⟨h.c.app,h.cb,h.k.app,h.kb,h.n⟩
theorem Act.Rd.app'{a:Act}(h:a.Rd Δ):a.Rd (Γ++Δ):=⟨zhN h.c,h.cb,zgK h.k,h.kb,h.n⟩
def RdActs(Γ:List (Nat × Blk))(v:Value)(l:List Act):Prop:=((v=zya∧l=[])∨∃ (p c j:Nat) (w:Bool),v=sl p 0 l.length c∧Γ[j]?=some (p,(⟨l.flatMap zDN,w⟩:Blk)))∧∀ a ∈ l,a.Rd Γ
theorem RdActs.app{l:List Act}(h:RdActs Γ v l):RdActs (Γ++Δ) v l:=by
 refine⟨?_,fun a ha=>(h.2 a ha).app⟩
 rcases h.1 with h|⟨p,c,j,w,h1,h2⟩
 ·exact .inl h
 ·exact .inr ⟨p,c,j,w,h1,zza h2⟩
theorem RdActs.lenSl{l:List Act}(h:RdActs Γ v l):Ab.lenSl v H=some (int l.length,H):=by
 rcases h.1 with⟨rfl,rfl⟩|⟨p,c,j,w,rfl,_⟩ <;> rfl
theorem RdActs.at{l:List Act}{K:VH}(hO:St H Γ)(h:RdActs Γ v l){i:Nat}(hi:i < l.length)(hk:K (agg (zDN l[i])) H):opP (zWa 4 v (int i)) fun t=>opW (zna 4 t H) K:=by
 rcases h.1 with⟨rfl,rfl⟩|⟨p,c,j,w,rfl,hj⟩
 ·simp at hi
 ·refine zaa (zHa (by omega) (by omega)) ?_
  have hf:=zNm (f:=zDN) (l:=l) (n:=4) (o:=0) (m:=4) (fun x _=>rfl) hi (by omega)
  rw[Nat.zero_add,Int.toNat_natCast]
  refine zBa hO j hj (show _=zDN l[i] from ?_) rfl (by omega) hk
  rw[Nat.add_zero] at hf
  rw[hf,List.drop_zero]
  exact List.take_of_length_le (Nat.le_refl _)
theorem ArgB.shape(h:ArgB Γ v xs):∃ a n c,v=.slice a n c:=by
 rcases h with⟨rfl,_⟩|⟨p,j,rfl,_⟩ <;> exact⟨_,_,_,rfl⟩
theorem RdC.shape(h:ArgC Γ v l):v=zya∨∃ p n c,v=sl p 0 n c:=by
 rcases h with⟨rfl,_⟩|⟨p,j,rfl,hj⟩
 ·exact .inl rfl
 ·exact .inr ⟨_,_,_,rfl⟩
end J
set_option maxRecDepth 100000
namespace J
open Go Go.Ab
variable{H:Heap}{Γ Γ0 Γ2 Δ G:List (Nat × Blk)}{K:VH}{v w x:Value}{xs ys bs body:List Int}{j p qj qs A B k:Nat}{e:Int}{ss tt bb:List (List Int)}{m m' m2:Mp}{part pos:Int}{M:Rm}{jn:Jn}{t next first:Tb}{l:List Ch}{L:Mloc}{ps pj:Nat}
structure Shp (m m':Mp):Prop where
 s:m'.spans=m.spans
 c:m'.d.cells.length=m.d.cells.length
theorem Shp.rfl':Shp m m:=⟨rfl,rfl⟩
theorem Shp.trans(h:Shp m m')(h2:Shp m' m2):Shp m m2:=⟨h2.s.trans h.s,h2.c.trans h.c⟩
theorem zBA:Shp m (m.erase part pos).1:=by
 unfold Mp.erase
 split
 ·exact .rfl'
 ·unfold Mp.note
  split
  ·exact⟨rfl,Dv.erase_len⟩
  ·exact⟨rfl,Dv.erase_len⟩
theorem zhu{s:List Int}:Shp m (m.program part pos s).1:=by
 unfold Mp.program
 split
 ·exact .rfl'
 ·unfold Mp.note
  split
  ·exact⟨rfl,Dv.program_len⟩
  ·exact⟨rfl,Dv.program_len⟩
theorem zSr:Shp m m.sync.1:=⟨rfl,Dv.sync_len⟩
theorem ziu:∀ (n y:Nat) (m:Mp),Shp m (Mp.wipeN part n y m).1
 | 0,_,m=>.rfl'
 | n+1,y,m=>by
  rw[Mp.wipeN_succ]
  split
  ·exact ziu n _ m
  split
  ·exact zBA
  ·exact zBA.trans (ziu n _ _)
theorem zTr:Shp m (m.wipe part).1:=by
 unfold Mp.wipe
 split
 ·exact .rfl'
 ·exact ziu _ _ _
theorem zNk{bank:Int}:∀ (l:List (List Int)) (a:Int) (m:Mp),Shp m (zDc bank a l m).1
 | [],a,m=>zSr
 | s::r,a,m=>by
  rw[zie]
  split
  ·exact zhu
  ·exact zhu.trans (zNk r _ _)
theorem zDH:Shp m (zXc jn m body).2.1∧(zXc jn m body).1.a=jn.a∧(zXc jn m body).1.b=jn.b:=by
 unfold zXc
 split
 ·exact⟨.rfl',rfl,rfl⟩
 simp only
 split
 ·exact⟨zTr,rfl,rfl⟩
 split
 ·exact⟨zTr.trans zSr,rfl,rfl⟩
 split
 ·exact⟨(zTr.trans zSr).trans (zNk _ _ _),rfl,rfl⟩
 ·exact⟨(zTr.trans zSr).trans (zNk _ _ _),rfl,rfl⟩
theorem zOE:Shp m (zkb jn m body).2.1∧(zkb jn m body).1.a=jn.a∧(zkb jn m body).1.b=jn.b:=by
 unfold zkb
 split
 ·exact⟨.rfl',rfl,rfl⟩
 simp only
 split
 ·exact⟨.rfl',rfl,rfl⟩
 split
 ·exact⟨zNk _ _ _,rfl,rfl⟩
 ·exact⟨zNk _ _ _,rfl,rfl⟩
theorem Two.shp(h:Two m A B)(hs:Shp m m'):Two m' A B:=by
 obtain⟨r,e⟩:=h.sp
 exact⟨⟨r,hs.s.trans e⟩,by rw[hs.c]; exact h.fit⟩
structure WI (A B k:Nat) (t:Tb) (jn:Jn) (m:Mp):Prop where
 ok:m.Ok
 jok:jn.Ok
 jab:Jab jn
 sm:m.Sm (5000 * k)
 bd:BD m.d
 two:Two m A B
 tw:TW t
theorem WI.has(h:WI A B k t jn m):m.has jn.a∧m.has jn.b:=by
 rw[h.jab.a,h.jab.b]
 exact⟨(zPx h.two (.inl rfl)).1,(zPx h.two (.inr rfl)).1⟩
theorem WI.mono{k':Nat}(h:WI A B k t jn m)(hk:k≤k'):WI A B k' t jn m:=⟨h.ok,h.jok,h.jab,h.sm.mono (by omega),h.bd,h.two,h.tw⟩
theorem ziN(h:WI A B k t jn m)(hb1:By (lBy l))(hb2:By (tBy next)):WI A B (k+1) t (zeh jn m next l).1 (zeh jn m next l).2.1:=by
 unfold zeh
 split
 ·have hs:=zOE (jn:=jn) (m:=m) (body:=lBy l)
  exact⟨zBE h.ok,zZB h.ok h.jok,⟨hs.2.1.trans h.jab.a,hs.2.2.trans h.jab.b⟩,(zCE h.ok h.sm).mono (by omega),zYG h.bd hb1,h.two.shp hs.1,h.tw⟩
 ·have hs:=zDH (jn:=jn) (m:=m) (body:=tBy next)
  exact⟨zPG h.ok,zAE h.jok,⟨hs.2.1.trans h.jab.a,hs.2.2.trans h.jab.b⟩,(zQG h.ok h.sm).mono (by omega),zeJ h.bd hb2,h.two.shp hs.1,h.tw⟩
theorem zRO(h:WI A B k t jn m)(hc:∀ c ∈ l,CBy c):WI A B (k+1) (tDo t jn m l).1 (tDo t jn m l).2.1 (tDo t jn m l).2.2.1:=by
 have hw:=zQr h.tw hc
 have hk:=ziN (next:=(zZa t l).1) (l:=l) h (zJD hc) (zmH hw.a hw.b)
 unfold tDo
 split
 ·exact h.mono (by omega)
 split
 ·exact hk
 ·exact⟨hk.ok,hk.jok,hk.jab,hk.sm,hk.bd,hk.two,hw⟩
theorem zDL{n:Int}(h:WI A B k t jn m)(hn:n≤9223372036854775807):WI A B k t jn { m with d:=m.d.limit n }:=by
 have hd:=h.ok.d
 exact⟨⟨⟨hd.c,hd.n,hd.ds,hd.m,by show -1≤max n (-1)∧max n (-1)≤_; omega⟩,h.ok.s,h.ok.n⟩,h.jok,h.jab,h.sm,⟨h.bd.c,h.bd.w⟩,⟨h.two.sp,h.two.fit⟩,h.tw⟩
theorem zEH(ks:List Int)(h:WI A B k t jn m):WI A B k t jn { m with d:=m.d.restart ks }:=by
 have hd:=Dv.restart_ok h.ok.d ks
 have hl:(m.d.restart ks).cells.length=m.d.cells.length:=by
  show (zYb _ _).length=_
  rw[zse,zec]
 exact⟨⟨hd,fun x hx=>by show x.1+x.2≤(m.d.restart ks).cells.length; rw[hl]; exact h.ok.s x hx,h.ok.n⟩,h.jok,h.jab,⟨Nat.zero_le _,h.sm.2⟩,zFE h.bd ks,h.two.shp ⟨rfl,hl⟩,h.tw⟩
theorem zjO(h:WI A B k t jn m):WI A B k t jn { m with ops:=[] }:=
 ⟨⟨h.ok.d,h.ok.s,h.ok.n⟩,h.jok,h.jab,⟨h.sm.1,Nat.zero_le _⟩,h.bd,⟨h.two.sp,h.two.fit⟩,h.tw⟩
theorem zhK:∀ (r:List (List Int)) (t:Tb),TW t→(∀ b ∈ r,By b)→TW (tGo t r)
 | [],t,h,_=>h
 | b::r,t,h,hb=>by
  rw[zby]
  split
  ·exact h
  split
  ·exact h
  ·refine zhK r _ (zQr h ?_) fun x hx=>hb x (List.mem_cons_of_mem _ hx)
   exact zlJ (hb b List.mem_cons_self)
theorem zxJ(h:TW first)(hb:∀ b ∈ bb,By b):TW (zQd bb first):=by
 match bb,hb with
 | [],_=>exact h
 | b::r,hb=>
  show TW (if (zzd b).2≠0 then first else tGo (zzd b).1 r)
  split
  ·exact h
  ·exact zhK r _ (zkJ (hb b List.mem_cons_self)) fun x hx=>hb x (List.mem_cons_of_mem _ hx)
theorem zxC:∀ (n want:Nat) (ss:List (List Int)) (out:Row),(∀ s ∈ ss,By s)→out.last < 2 ^ 64→(zTc n want ss out).last < 2 ^ 64
 | 0,_,_,_,_,h=>h
 | n+1,want,ss,out,hb,h=>by
  show (if znd want (zPd ss) out then out else zTc n 2 (ss.drop (zPd ss).many) (zcf want (zPd ss) out)).last < 2 ^ 64
  split
  ·exact h
  ·exact zxC n 2 _ _ (fun s hs=>hb s (List.mem_of_mem_drop hs)) (zMx hb).1
theorem zPE(hb:BD m.d){a b:Int}:(zvc m a b).last < 2 ^ 64:=by
 unfold zvc
 split
 ·exact zxC _ _ _ _ (zGk hb) (by decide)
 ·exact zxC _ _ _ _ (zGk hb) (by decide)
theorem zjN(h:WI A B k t jn m)(hf:TW first):WI A B k (zQd (zvc m 0 1).bodies first) (zRm m 0 1) m:=
 ⟨h.ok,⟨by unfold zRm; simp only; split <;> simp,(fun h=>by have h:false=true:=h; cases h),by show (0:Int)≤0∧(0:Int)≤_; omega,zPE h.bd⟩,⟨rfl,rfl⟩,h.sm,h.bd,h.two,zxJ hf (zGD h.bd)⟩
theorem zkO(hA:1≤A)(hB:1≤B)(hs:A+B≤60)(hf:TW first):WI A B 0 first ⟨0,1,1,0,0,false⟩ (mt A B):=
 ⟨ziO hs,⟨.inr rfl,(fun h=>by cases h),by show (0:Int)≤0∧(0:Int)≤_; omega,by show 0 < 2 ^ 64; omega⟩,⟨rfl,rfl⟩,⟨Nat.zero_le _,Nat.zero_le _⟩,zCM,zgN hs,hf⟩
end J
set_option maxRecDepth 100000
namespace J
open Go Go.Ab
variable{H:Heap}{Γ Γ0 Γ2 Δ G:List (Nat × Blk)}{K:VH}{v w x:Value}{xs ys bs body:List Int}{j p qj qs A B k:Nat}{e:Int}{ss tt bb:List (List Int)}{m m' m2:Mp}{part pos:Int}{M:Rm}{jn:Jn}{t next first:Tb}{l:List Ch}{L:Mloc}{ps pj:Nat}
abbrev PW(ps pj:Nat)(L:Mloc)(t:Tb)(jn:Jn)(m:Mp):List (Nat × Blk):=SB ps pj t++(JB pj L.pm jn++MW L m)
abbrev QW(qs qj:Nat)(M:Rm)(t:Tb)(jn:Jn)(m:Mp):List (Nat × Blk):=SB qs qj t++(QB qj M.pm jn++RM M m)
theorem PW.out(h:St H ((Γ++PW ps pj L t jn m)++Δ)):St H ((((Γ++Δ)++SB ps pj t)++JB pj L.pm jn)++MW L m):=h.perm (by classical exact List.perm_iff_count.2 fun _=>by simp only[List.count_append,List.count_nil,List.set_cons_zero]; omega)
theorem QW.out(h:St H (Γ++QW qs qj M t jn m)):St H (((Γ++SB qs qj t)++QB qj M.pm jn)++RM M m):=h.perm (by classical exact List.perm_iff_count.2 fun _=>by simp only[List.count_append,List.count_nil,List.set_cons_zero]; omega)
theorem zlO(p o:Nat):(zsa P .eql 49 true).f (ptr p o) (.pointer none)=some (.bool false):=by kernel_rfl
theorem zFH{l:List Op}{n:Nat}(h:Own 4 v n (zwi l))(hn:n=l.length):l≠[]→∃ p c,v=sl p 0 l.length c∧(Γ++zGa v (zwi l))[Γ.length+0]?=some (p,⟨zwi l,true⟩):=by
 subst hn
 intro hne
 rcases h with⟨_,h,_⟩|⟨p,rfl|rfl,_⟩
 ·exact absurd (List.length_eq_zero_iff.1 h) hne
 ·exact⟨p,_,rfl,zqa rfl⟩
 ·exact⟨p,_,rfl,zqa rfl⟩
theorem zkN(h2:Two m A B)(hA:A≤30)(hB:B≤30)(hbd:BD m.d):∀ x ∈ (zvc m 0 1).bodies,x.length≤1000000:=by
 have h:∀ (n want:Nat) (ss:List (List Int)) (out:Row),(∀ x ∈ out.bodies,x.length≤1000000)→∀ x ∈ (zTc n want ss out).bodies,x.length≤1000000:=by
  intro n
  induction n with
  | zero=>intro want ss out ho; exact ho
  | succ n ih=>
   intro want ss out ho
   show ∀ x ∈ (if znd want (zPd ss) out then out else zTc n 2 (ss.drop (zPd ss).many) (zcf want (zPd ss) out)).bodies,x.length≤1000000
   split
   ·exact ho
   ·refine ih 2 _ _ fun x hx=>?_
    have hx:x ∈ out.bodies++[(zPd ss).body]:=hx
    rcases List.mem_append.1 hx with hx|hx
    ·exact ho x hx
    ·rw[List.mem_singleton.1 hx]
     unfold zPd
     match ss with
     | []=>simp[fr0]
     | s::r=>
      simp only
      split
      ·simp[fr0]
      split
      ·simp[fr0]
      ·show (zAk (s::r) s).length≤_
       rename_i hbad _
       unfold zAk
       rw[List.length_take]
       have:zRb (zue s)≠0:=fun h0=>hbad (.inr (.inl h0))
       unfold zRb at this
       by_cases h4:(zue s:Int) < 0∨4000 < (zue s:Int)
       ·rw[if_pos h4] at this; exact absurd rfl this
       ·omega
 unfold zvc
 split
 ·exact h _ _ _ _ (fun x hx=>by cases hx)
 ·exact h _ _ _ _ (fun x hx=>by cases hx)
theorem zGH{n:Int}(hM:RMok M m)(hO:St H (Γ++RM M m))(hk:∀ H' M',M.Eq M'→St H' (Γ++RM M' { m with d:=m.d.limit n })→RMok M' { m with d:=m.d.limit n }→K (.tuple [].toArray) H'):wCall P zwg [ptr M.r.pd 0,int n] H K:=by
 refine zpA hM.r (RM.toD hO) ?_
 intro H hO hR
 exact hk H { M with r:=M.r.lim n } ⟨rfl,rfl⟩ (RM.dev rfl hO) ⟨hR,hM.o,hM.s⟩
theorem zyC{ks:List Int}(ok:m.d.Ok)(hd:m.d.done.length≤1000000)(hM:RMok M m)(hO:St H (Γ++RM M m))(hw:RdB Γ w ks)(hb:By ks)(hk:∀ H' M',M.Eq M'→St H' (Γ++RM M' { m with d:=m.d.restart ks })→RMok M' { m with d:=m.d.restart ks }→K (.tuple [].toArray) H'):wCall P zzc [ptr M.r.pd 0,w] H K:=by
 refine zgv ok hd hM.r (RM.toD hO) hw.app.app hb ?_
 intro H hO hR
 exact hk H { M with r:={ M.r with vd:=zya } } ⟨rfl,rfl⟩ (RM.dev rfl hO) ⟨hR,hM.o,hM.s⟩
structure LR (A B y:Nat) (acts:List Act) (actsv:Value) (Γ0:List (Nat × Blk)) (p4:Nat) (first:Tb) (pm qm:Nat) (t:Tb) (jn:Jn) (m:Mp) (L:Mloc) (M:Rm):Prop where
 own:Mown L m
 rok:RMok M m
 actr:RdActs Γ0 actsv acts
 fj:∃ j:Nat,Γ0[j]?=some (p4,(⟨tbC first,true⟩:Blk))
 w:WI A B y t jn m
 hL:L.pm=pm
 hM:M.pm=qm
end J
