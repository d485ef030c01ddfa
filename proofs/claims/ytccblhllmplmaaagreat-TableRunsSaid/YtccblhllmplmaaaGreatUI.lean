/- texts of the proof, one behind the other -/
import Derived.Test.YtccblhllmplmaaaGreatUH
set_option linter.unusedSectionVars false
set_option linter.unusedVariables false
set_option linter.unusedSimpArgs false
set_option maxRecDepth 100000
namespace J
open Go Go.Ab
variable{H:Heap}{Γ Γ0 Γ2 Δ G:List (Nat × Blk)}{K:VH}{v w x:Value}{xs ys bs:List Int}{j p:Nat}{e:Int}
def zDK(b:List Int):List Int:=List.replicate (63 * nCh b.length - b.length) 255
noncomputable def plB(kind seq:Nat)(body:List Int):List Int:=zll kind seq body++zDK (zll kind seq body)
def its(p:List Int):Nat→List Int
 | 0=>[]
 | i+1=>its p i++(p.getD i 0::if i % 63=62 then [0] else [])
theorem zwr{b:List Int}:(b++zDK b).length=63 * nCh b.length:=by
 unfold zDK nCh
 rw[List.length_append,List.length_replicate]; omega
theorem zOI{p:List Int}{k:Nat}(h:63 * k+63≤p.length):∀ j,j≤63→its p (63 * k+j)=its p (63 * k)++((p.drop (63 * k)).take j++if j=63 then [0] else [])
 | 0,_=>by rw[List.take_zero]; simp
 | j+1,hj=>by
  have ih:=zOI h j (by omega)
  show its p (63 * k+j)++(p.getD (63 * k+j) 0::if (63 * k+j) % 63=62 then [0] else [])=_
  rw[ih,if_neg (show ¬ j=63 by omega),List.append_nil]
  have hl:63 * k+j < p.length:=by omega
  rw[List.take_succ_eq_append_getElem (by rw[List.length_drop]; omega),List.getElem_drop,List.getD_eq_getElem?_getD,List.getElem?_eq_getElem hl]
  by_cases h2:j=62
  ·rw[if_pos (by omega),if_pos (by omega)]; simp
  ·rw[if_neg (by omega),if_neg (by omega)]; simp
theorem znK{b:List Int}{k:Nat}(h:k < nCh b.length):zMA ((b.drop (63 * k)).take 63)=((b++zDK b).drop (63 * k)).take 63++[0]:=by
 unfold zMA zDK
 unfold nCh at h
 rw[List.drop_append_of_le_length (by omega),List.take_append,List.take_replicate,List.length_take,List.length_drop]
 unfold nCh
 rw[show 63 - min 63 (b.length - 63 * k)=min (63 - (b.length - 63 * k)) (63 * ((b.length+62) / 63) - b.length) by omega,List.append_assoc]
theorem zuz{b:List Int}:∀ k,k≤nCh b.length→its (b++zDK b) (63 * k)=((zae b).take k).flatten
 | 0,_=>by simp[its]
 | k+1,h=>by
  rw[zkt (by omega),List.flatten_append,← zuz k (by omega),show 63 * (k+1)=63 * k+63 by omega,zOI (by rw[zwr]; omega) 63 (by omega),if_pos rfl,znK (by omega)]
  simp
noncomputable def byB(kind seq:Nat)(body:List Int):List Int:=(zae (zll kind seq body)).flatten
theorem zmG{kind seq:Nat}{body:List Int}:its (plB kind seq body) (plB kind seq body).length=byB kind seq body:=by
 unfold plB byB
 rw[zwr,zuz _ (Nat.le_refl _),List.take_of_length_le (by rw[zte]; exact Nat.le_refl _)]
set_option maxHeartbeats 1000000 in
theorem zvz{kind seq:Nat}{body:List Int}(hO:St H Γ)(hv:RdB Γ v body)(hb:By body)(hl:body.length≤4000)(hk8:kind < 256)(hs:seq < 2 ^ 64)(hk:MadeB Γ K (plB kind seq body)):wCall P zzg [zgb .u8 kind,zgb .u64 seq,v] H K:=by
 apply zlu; unfold zWs
 refine zEa hO (zhC _ _ _ _ _) ?_
 clear hO
 intro q H hO
 refine zyF hO (i:=Γ.length+0) (zqa rfl) (by omega) ?_
 refine zEa hO (zoi _ _ _) ?_
 clear hO
 intro q2 H hO
 refine zAb (ys:=[(kind:Int)]) (xs:=[66,74]) (cs:=by8 [66,74]) (v:=sl q 0 2 3) hO (.inr ⟨q,.inr ⟨rfl,rfl⟩,rfl,Nat.le_refl _,rfl⟩) (by simp) rfl (.inr rfl) ?_
 clear hO
 intro H v1 c1 hO h1
 refine zPb (size:=8) hO hs (by omega) ?_
 clear hO
 intro H v2 c2 hO h2
 refine zsc hO h1 h2 (by simp[zib]) ?_
 clear hO
 intro H v3 c3 hO h3
 refine zAa hv.lenSl ?_
 refine zAa (zfD (by omega) (by omega)) ?_
 rw[Int.toNat_natCast]
 refine zPb (size:=2) hO (by omega) (by omega) ?_
 clear hO
 intro H v4 c4 hO h4
 refine zsc hO h3 h4 (by simp[zib]) ?_
 clear hO
 intro H v5 c5 hO h5
 refine zVd hO h5 hv (by simp[zib]; omega) ?_
 clear hO
 intro H v6 c6 hO h6
 have hby:=zPw (seq:=seq) hk8 hb
 have hln:(([66,74]++[(kind:Int)]++leN 8 seq++leN 2 body.length)++body).length≤5000:=by simp[zib]; omega
 refine zyu hO h6.rd.app' hby (by omega) ?_
 clear hO
 intro H hO
 have hcl:zbf 0 (([66,74]++[(kind:Int)]++leN 8 seq++leN 2 body.length)++body) < 4294967296:=by unfold zbf; omega
 refine zAa (cvU rfl) ?_
 rw[show zbf 0 (([66,74]++[(kind:Int)]++leN 8 seq++leN 2 body.length)++body) % szU .u64=zbf 0 (([66,74]++[(kind:Int)]++leN 8 seq++leN 2 body.length)++body) from Nat.mod_eq_of_lt (by show _ < 2 ^ 64; omega)]
 refine zPb (size:=4) hO (by omega) (by omega) ?_
 clear hO
 intro H v7 c7 hO h7
 refine zsc hO h6 h7 (by simp[zib] at hln ⊢; omega) ?_
 clear hO
 intro H v8 c8 hO h8
 replace h8:OwnB v8 (zll kind seq body) c8:=h8
 have hsl:(zll kind seq body).length≤4017:=by rw[zbh]; omega
 unfold plB at hk
 generalize zll kind seq body=b at hk h8 hsl
 have hpl:=zwr (b:=b)
 have hn:63 * nCh b.length≤b.length+62∧b.length≤63 * nCh b.length:=by unfold nCh; omega
 refine zTn (fun k l' H'=>∃ (i:Nat) (v:Value) (cs:List Value),i≤63 * nCh b.length - b.length∧k=63 * nCh b.length - b.length - i∧l'=[zya,v]∧St H' (Γ++zFa v cs)∧OwnB v (b++List.replicate i 255) cs) _ _ ?_ (63 * nCh b.length - b.length) _ _ ⟨0,v8,c8,by omega,rfl,rfl,hO,by simpa using h8⟩
 clear hO h8
 rintro k l' H ⟨i,v,cs,hi,rfl,rfl,hO,h8⟩
 unfold zWl
 try simp only[zja,zka]
 refine zAa h8.lenSl ?_
 have hll:(b++List.replicate i (255:Int)).length=b.length+i:=by simp
 refine zaa (zan (k:=.i64) (b:=63) (by omega)) ?_
 refine zaa zJa ?_
 rw[hll]
 refine zia (fun h=>?_) (fun h=>?_)
 ·have hil:i < 63 * nCh b.length - b.length:=by omega
  refine zEa hO (zoi _ _ _) ?_
  clear hO
  intro q3 H hO
  refine zAb (ys:=[255]) hO h8 (by rw[hll]; simp; omega) rfl (.inr rfl) ?_
  clear hO h8
  intro H v' cs' hO h8
  refine⟨_,by omega,i+1,v',cs',by omega,rfl,rfl,hO,?_⟩
  rw[List.replicate_succ',← List.append_assoc]
  exact h8
 ·have ei:i=63 * nCh b.length - b.length:=by
   have hz:(b.length+i) % 63=0:=by omega
   omega
  subst ei
  refine zeb rfl ?_
  try simp only[zja,zka]
  exact hk _ _ _ hO h8
theorem zqq{kind seq:Nat}{body:List Int}(hO:St H Γ)(hv:RdB Γ v body)(hb:By body)(hl:body.length≤4000)(hk8:kind < 256)(hs:seq < 2 ^ 64)(hk:MadeB Γ K (byB kind seq body)):wCall P zRe [zgb .u8 kind,zgb .u64 seq,v] H K:=by
 apply zju; unfold zTs
 refine zEa hO (zXl _) ?_
 clear hO
 intro q H hO
 refine zvz hO hv.app hb hl hk8 hs ?_
 clear hO
 intro H vp cp hO hp
 have hpl:(plB kind seq body).length≤5000:=by
  unfold plB
  rw[zwr,zbh]
  unfold nCh; omega
 have hall:=zmG (kind:=kind) (seq:=seq) (body:=body)
 rw[← hall] at hk
 clear hall
 generalize plB kind seq body=pl at hk hp hpl
 refine zAa hp.lenSl ?_
 have hil:∀ i,(its pl i).length≤2 * i:=by
  intro i
  induction i with
  | zero=>exact Nat.le_refl _
  | succ i ih=>
   show (its pl i++(pl.getD i 0::if i % 63=62 then [0] else [])).length≤_
   rw[List.length_append,List.length_cons]
   split <;> simp <;> omega
 have hO2:St H ((Γ++zFa vp cp)++zFa (sl q 0 0 3) []):=hO.perm (by
  rw[List.append_assoc,List.append_assoc]
  exact List.Perm.append_left Γ List.perm_append_comm)
 clear hO
 refine zRn (fun k l' H'=>∃ (i:Nat) (v:Value) (cs:List Value),i≤pl.length∧k=pl.length - i∧l'=[zya,v,vp,int pl.length,int i]∧St H' ((Γ++zFa vp cp)++zFa v cs)∧OwnB v (its pl i) cs) _ _ ?_ pl.length _ _ ⟨0,sl q 0 0 3,[],by omega,rfl,rfl,hO2,.inr ⟨q,.inr ⟨rfl,rfl⟩,rfl,Nat.zero_le _,rfl⟩⟩
 clear hO2
 rintro k l' H ⟨i,v,cs,hi,rfl,rfl,hO,h8⟩
 unfold zTl
 try simp only[zja,zka]
 refine zaa zKa ?_
 refine zia (fun h=>?_) (fun h=>?_)
 ·have hlt:i < pl.length:=by omega
  have hi2:=hil i
  refine byte_at (n:=i) hO (hp.rd.app'.app) rfl hlt ?_
  refine zEa hO (zoi _ _ _) ?_
  clear hO
  intro q3 H hO
  refine zAb (ys:=[pl[i]]) hO h8 (by simp; omega) rfl (.inr rfl) ?_
  clear hO h8
  intro H v' cs' hO h8
  refine zaa (zan (k:=.i64) (b:=63) (by omega)) ?_
  refine zaa zYa ?_
  have hg:pl.getD i 0=pl[i]:=by rw[List.getD_eq_getElem?_getD,List.getElem?_eq_getElem hlt]; rfl
  refine zia (fun h2=>?_) (fun h2=>?_)
  ·refine zEa hO (zoi _ _ _) ?_
   clear hO
   intro q4 H hO
   refine zAb (ys:=[0]) hO h8 (by simp; omega) rfl (.inr rfl) ?_
   clear hO h8
   intro H v2 cs2 hO h8
   repeat refine oi ?_
   refine⟨_,by omega,i+1,v2,cs2,by omega,rfl,rfl,hO,?_⟩
   show OwnB v2 (its pl i++(pl.getD i 0::if i % 63=62 then [0] else [])) cs2
   rw[if_pos (by omega),hg]
   simpa using h8
  ·repeat refine oi ?_
   refine⟨_,by omega,i+1,v',cs',by omega,rfl,rfl,hO,?_⟩
   show OwnB v' (its pl i++(pl.getD i 0::if i % 63=62 then [0] else [])) cs'
   rw[if_neg (by omega),hg]
   exact h8
 ·have ei:i=pl.length:=by omega
  subst ei
  refine zeb rfl ?_
  try simp only[zja,zka]
  exact hk _ _ _ (hO.perm (by
   rw[List.append_assoc,List.append_assoc]
   exact List.Perm.append_left Γ List.perm_append_comm)).left h8
end J
set_option maxRecDepth 100000
namespace J
open Go Go.Ab
variable{H:Heap}{Γ Γ0 Γ2 Δ G:List (Nat × Blk)}{K:VH}{v w x:Value}{xs ys bs:List Int}{j p:Nat}{e:Int}{ss tt:List (List Int)}
theorem S64.tail{s:List Int}(h:S64 (s::ss)):S64 ss:=fun x hx=>h x (List.mem_cons_of_mem _ hx)
theorem zrq:∀ {ss:List (List Int)},S64 ss→ss.flatten.length=64 * ss.length
 | [],_=>rfl
 | s::r,h=>by
  rw[List.flatten_cons,List.length_append,zrq h.tail,h s List.mem_cons_self,List.length_cons]; omega
theorem znG:∀ {ss:List (List Int)} {y i:Nat},S64 ss→(hy:y < ss.length)→(hi:i < 64)→ss.flatten[64 * y+i]?=ss[y][i]?
 | s::r,0,i,h,_,hi=>by
  rw[List.flatten_cons,List.getElem?_append_left (by rw[h s List.mem_cons_self]; omega),show 64 * 0+i=i by omega]; rfl
 | s::r,y+1,i,h,hy,hi=>by
  have hl:=h s List.mem_cons_self
  rw[List.flatten_cons,List.getElem?_append_right (by rw[hl]; omega),hl,show 64 * (y+1)+i - 64=64 * y+i by omega]
  exact znG h.tail (by simpa using hy) hi
theorem zoG:∀ {ss:List (List Int)} {n:Nat},S64 ss→ss.flatten.take (64 * n)=(ss.take n).flatten
 | [],n,_=>by simp
 | s::r,0,_=>by simp
 | s::r,n+1,h=>by
  have hl:=h s List.mem_cons_self
  rw[List.flatten_cons,List.take_append,hl,List.take_of_length_le (by rw[hl]; omega),show 64 * (n+1) - 64=64 * n by omega,zoG h.tail,List.take_succ_cons,List.flatten_cons]
theorem zkB:∀ {ss:List (List Int)} {n:Nat},S64 ss→ss.flatten.drop (64 * n)=(ss.drop n).flatten
 | [],n,_=>by simp
 | s::r,0,_=>by simp
 | s::r,n+1,h=>by
  have hl:=h s List.mem_cons_self
  rw[List.flatten_cons,List.drop_append,hl,List.drop_of_length_le (by rw[hl]; omega),show 64 * (n+1) - 64=64 * n by omega,zkB h.tail,List.drop_succ_cons,List.nil_append]
theorem zPI:∀ {ss tt:List (List Int)},S64 ss→S64 tt→ss.flatten=tt.flatten→ss=tt
 | [],[],_,_,_=>rfl
 | [],t::r,_,ht,h=>by
  have:=congrArg List.length h
  rw[zrq ht] at this
  simp at this
 | s::r,[],hs,_,h=>by
  have:=congrArg List.length h
  rw[zrq hs] at this
  simp at this
 | s::r,t::q,hs,ht,h=>by
  rw[List.flatten_cons,List.flatten_cons] at h
  obtain⟨h1,h2⟩:=List.append_inj h (by rw[hs s List.mem_cons_self,ht t List.mem_cons_self])
  rw[h1,zPI hs.tail ht.tail h2]
theorem zOL(h:∀ s ∈ ss,By s):By ss.flatten:=fun x hx=>by
 obtain⟨s,hs,hx⟩:=List.mem_flatten.1 hx
 exact h s hs x hx
def zeI(s:List Int)(i:Nat):List Int:=s.take i++List.replicate (64 - i) 0
theorem zfI{s:List Int}{i:Nat}(h:s.length=64)(hi:i≤64):(zeI s i).length=64:=by
 unfold zeI
 rw[List.length_append,List.length_take,List.length_replicate]; omega
theorem zgI{s:List Int}{i:Nat}(h:s.length=64)(hi:i < 64):(by8 (zeI s i)).set i (.int .u8 (s[i]'(by omega)))=by8 (zeI s (i+1)):=by
 unfold zeI by8
 rw[← List.map_set,List.set_append_right _ _ (by rw[List.length_take]; omega),List.length_take,show i - min i s.length=0 by omega,show 64 - i=(64 - (i+1))+1 by omega,List.replicate_succ,List.set_cons_zero,List.take_succ_eq_append_getElem (by omega),List.append_assoc]; rfl
theorem zPL(H:Heap):(zpa P 79 0).f [] H=some (sl H.next 0 0 129,H.push []):=by kernel_rfl
theorem zQM{t1 t2 vb:Value}{y p10:Nat}{s:List Int}{Qx:LX}{Qr:LN}(hv:RdB Γ vb ss.flatten)(hs:S64 ss)(hy:y < ss.length)(hl:ss.length≤1000000)
  (hO:St H (Γ++[(p10,⟨by8 zeros,true⟩)]))
  (hk:∀ H',St H' (Γ++[(p10,⟨by8 ss[y],true⟩)])→Qx 2 [t1,t2,vb,int ((64 * y:Nat):Int),ptr p10 0] H') :
  zbb P true 45 zjk 1984 [t1,t2,vb,int ((64 * y:Nat):Int),ptr p10 0,int 0] H Qx Qr:=by
 have h64:=hs _ (List.getElem_mem hy)
 refine zMq (fun k l' H'=>∃ i:Nat,i≤64∧k=64 - i∧l'=[t1,t2,vb,int ((64 * y:Nat):Int),ptr p10 0,int i]∧St H' (Γ++[(p10,⟨by8 (zeI ss[y] i),true⟩)])) _ _ ?_ 64 _ _ ⟨0,by omega,rfl,rfl,hO⟩
 clear hO
 rintro k l' H ⟨i,hi,rfl,rfl,hO⟩
 unfold zXp
 try simp only[zja,zka]
 refine zaa zKa ?_
 refine zia (fun h=>?_) (fun h=>?_)
 ·have hi64:i < 64:=by omega
  refine zaa (v:=int ((64 * y+i:Nat):Int)) (by rw[zyb (by omega) (by omega)]; congr 2 <;> omega) ?_
  have hfl:=zrq hs
  have hlt:64 * y+i < ss.flatten.length:=by omega
  refine byte_at (n:=64 * y+i) hO hv.app rfl hlt ?_
  have hg:ss.flatten[64 * y+i]=ss[y][i]'(by omega):=by
   have:=znG hs hy hi64
   rw[List.getElem?_eq_getElem hlt,List.getElem?_eq_getElem (by omega)] at this
   exact Option.some.inj this
  rw[hg]
  refine zaa (zkb (by omega) (by omega)) ?_
  refine zua hO (Γ.length+0) (zqa rfl) rfl (by rw[zsa,zfI h64 (by omega)]; omega) (show _=by8 (zeI ss[y] (i+1)) from by rw[show 0+((i:Nat):Int).toNat * 1=i by omega]; exact zgI h64 hi64) ?_
  clear hO
  intro H hO
  replace hO:=hO.set_r
  repeat refine oi ?_
  exact⟨_,by omega,i+1,by omega,rfl,rfl,hO⟩
 ·have ei:i=64:=by omega
  subst ei
  refine hk H ?_
  have:zeI ss[y] 64=ss[y]:=by unfold zeI; rw[List.take_of_length_le (by omega)]; simp
  rw[this] at hO
  exact hO
theorem zAD{kind seq:Nat}{body:List Int}(hO:St H Γ)(hv:RdB Γ v body)(hb:By body)(hk8:kind < 256)(hs:seq < 2 ^ 64)(hk:zhL Γ K (zih kind seq body)):wCall P zTg [zgb .u8 kind,zgb .u64 seq,v] H K:=by
 apply zJy; unfold zIy
 refine zEa hO (zPL _) ?_
 clear hO
 intro q H hO
 have hw0:Own 64 (sl q 0 0 129) 0 []:=.inr ⟨q,.inr rfl,rfl⟩
 refine zAa hv.lenSl ?_
 refine zaa zZb ?_
 refine zia (fun h=>?_) (fun h=>?_)
 ·have e1:zih kind seq body=[]:=if_pos (by omega)
  rw[e1] at hk
  exact hk _ _ hO hw0
 have hl:body.length≤4000:=by omega
 rw[zVA hl] at hk
 refine zqq hO hv.app hb hl hk8 hs ?_
 clear hO
 intro H vb cb hO hvb
 unfold byB at hvb
 have hS:S64 (zae (zll kind seq body)):=zVy
 have hn:(zae (zll kind seq body)).length≤100:=by rw[zte,zbh]; unfold nCh; omega
 generalize zae (zll kind seq body)=ss at hk hvb hS hn
 have hfl:=zrq hS
 have hO2:St H ((Γ++zFa vb cb)++zFa (sl q 0 0 129) []):=hO.perm (by
  rw[List.append_assoc,List.append_assoc]
  exact List.Perm.append_left Γ List.perm_append_comm)
 clear hO
 refine zLq (fun k l' H'=>∃ (y:Nat) (w:Value),y≤ss.length∧k=ss.length - y∧l'=[zya,w,vb,int ((64 * y:Nat):Int)]∧St H' ((Γ++zFa vb cb)++zFa w (zhf (ss.take y)))∧Own 64 w y (zhf (ss.take y))) _ _ ?_ ss.length _ _ ⟨0,_,by omega,rfl,rfl,hO2,hw0⟩
 clear hO2 hw0
 rintro k l' H ⟨y,w,hy,rfl,rfl,hO,hw⟩
 unfold zWp
 try simp only[zja,zka]
 refine zAa hvb.lenSl ?_
 refine zaa zKa ?_
 refine zia (fun h=>?_) (fun h=>?_)
 ·have hyl:y < ss.length:=by omega
  refine zaa bS ?_
  rw[zcS]
  refine zCa hO ?_
  clear hO
  intro p10 H hO
  refine zoa hO (_+0) (zqa rfl) (by rw[zsa]; rfl) (by rw[zsa]; rfl) (zsb _) ?_
  clear hO
  intro H hO
  replace hO:=hO.set_r
  refine zQM (s:=[]) (y:=y) hvb.rd.app'.app hS hyl (by omega) hO ?_
  clear hO
  intro H hO
  refine zeb rfl ?_
  try simp only[zja,zka]
  have h64:=hS _ (List.getElem_mem hyl)
  refine zma hO (_+0) (zqa rfl) (by rw[zsa]; exact h64) (by omega) ?_
  have hO2:=hO.left
  clear hO
  refine zEa hO2 (zPJ h64 _) ?_
  clear hO2
  intro q2 H hO
  refine zOc hO hw (by rw[zsa]; exact h64) (by omega) (zsb _) (by omega) (by omega) ?_
  clear hO hw
  intro w H hO hw
  have e2:zhf (ss.take y)++by8 ss[y]=zhf (ss.take (y+1)):=by
   unfold zhf
   rw[List.take_succ_eq_append_getElem hyl,List.flatMap_append,List.flatMap_cons,List.flatMap_nil,List.append_nil]
  rw[e2] at hO hw
  refine zaa (v:=int ((64 * (y+1):Nat):Int)) (by rw[zyb (by omega) (by omega)]; congr 2 <;> omega) ?_
  exact⟨_,by omega,y+1,w,by omega,rfl,rfl,hO,hw⟩
 ·have ey:y=ss.length:=by omega
  subst ey
  rw[List.take_length] at hO hw
  refine zeb rfl ?_
  try simp only[zja,zka]
  exact hk _ _ (hO.perm (by
   rw[List.append_assoc,List.append_assoc]
   exact List.Perm.append_left Γ List.perm_append_comm)).left hw
end J
set_option maxRecDepth 100000
namespace J
open Go Go.Ab
variable{H:Heap}{Γ Γ0 Γ2 Δ G:List (Nat × Blk)}{K:VH}{v w x:Value}{xs ys bs:List Int}{j p:Nat}{e:Int}{ss tt:List (List Int)}
theorem zDm{n:Int}(hk:K (int (zOb n)) H):wCall P zme [int n] H K:=by
 apply zww; unfold zbv
 unfold zOb at hk
 refine zxa (fun l' H'=>l'=[int n,int 0]∧H'=H∧0≤n∧n≤4000) ?_ ?_
 ·refine zaa zKa ?_
  refine zia (fun h=>?_) (fun h=>?_)
  ·rw[if_pos (.inl h)] at hk
   refine zaa (zxb h) ?_
   refine zxe rfl ?_
   exact hk
  ·refine zaa zZb ?_
   refine zaa (zEb h) ?_
   refine zia (fun h2=>?_) (fun h2=>?_)
   ·rw[if_pos (.inr h2)] at hk
    exact hk
   ·exact⟨rfl,rfl,by omega,by omega⟩
 rintro l' H' ⟨rfl,rfl,h0,h1⟩
 rw[if_neg (by omega)] at hk
 try simp only[zja,zka]
 refine zKo (fun k l' H2=>∃ i:Nat,i≤(n.toNat+79) / 63∧k=(n.toNat+79) / 63 - i∧l'=[int n,int 0,int i]∧H2=H') _ _ ?_ ((n.toNat+79) / 63) _ _ ⟨0,by omega,rfl,rfl,rfl⟩
 rintro k l' H2 ⟨i,hi,rfl,rfl,rfl⟩
 unfold zxn
 try simp only[zja,zka]
 refine zaa (zWm (by omega) (by omega)) ?_
 refine zaa (zyb (by omega) (by omega)) ?_
 refine zaa zKa ?_
 refine zia (fun h=>?_) (fun h=>?_)
 ·repeat refine oi ?_
  exact⟨_,by omega,i+1,by omega,rfl,rfl,by first|rfl|trivial⟩
 ·have ei:i=(n.toNat+79) / 63:=by omega
  subst ei
  exact hk
def itp(p:List Int):Nat→List Int
 | 0=>[]
 | i+1=>itp p i++if i % 64≠63 then [p.getD i 0] else []
theorem zQI{p:List Int}{k:Nat}(h:64 * k+64≤p.length):∀ j,j≤64→itp p (64 * k+j)=itp p (64 * k)++(p.drop (64 * k)).take (min j 63)
 | 0,_=>by simp
 | j+1,hj=>by
  have ih:=zQI h j (by omega)
  show itp p (64 * k+j)++(if (64 * k+j) % 64≠63 then [p.getD (64 * k+j) 0] else [])=_
  rw[ih]
  have hl:64 * k+j < p.length:=by omega
  by_cases h2:j=63
  ·rw[if_neg (by omega),List.append_nil,h2]; rfl
  ·rw[if_pos (by omega),show min (j+1) 63=j+1 by omega,show min j 63=j by omega,List.take_succ_eq_append_getElem (by rw[List.length_drop]; omega),List.getElem_drop,List.getD_eq_getElem?_getD,List.getElem?_eq_getElem hl]
   simp
theorem zwz(hs:S64 ss):∀ k,k≤ss.length→itp ss.flatten (64 * k)=zch (ss.take k)
 | 0,_=>rfl
 | k+1,h=>by
  have hl:=zrq hs
  rw[show 64 * (k+1)=64 * k+64 by omega,zQI (by omega) 64 (by omega),zwz hs k (by omega),zkB hs,List.drop_eq_getElem_cons (show k < ss.length by omega),List.flatten_cons,show min 64 63=63 from rfl,List.take_append_of_le_length (by rw[hs _ (List.getElem_mem _)]; omega)]
  unfold zch
  rw[List.take_succ_eq_append_getElem (show k < ss.length by omega),List.flatMap_append,List.flatMap_cons,List.flatMap_nil,List.append_nil]
theorem zpG{p:List Int}:∀ i,(itp p i).length≤i
 | 0=>Nat.le_refl _
 | i+1=>by
  have:=zpG (p:=p) i
  show (itp p i++_).length≤_
  rw[List.length_append]
  split <;> simp <;> omega
def Smv(Γ:List (Nat × Blk))(v:Value):Prop:=∀ (H H':Heap) (Δ Δ':List (Nat × Blk)),St H (Γ++Δ)→St H' (Γ++Δ')→zhc (zWb H H') (zVa [v])
theorem Smv.app(h:Smv Γ v):Smv (Γ++Δ) v:=fun H H' A B h1 h2=>by
 rw[List.append_assoc] at h1 h2
 exact h H H' _ _ h1 h2
theorem zRI{size:Nat}{v v':Value}{lo hi mx:Option Value}(h:zLa size v lo hi mx=some v'):zVa [v']=zVa [v]∨zVa [v']=[]:=by
 have hr:∀ {a:Option Addr} {l h':Nat} {f:Bool} {n c:Nat},zrc size a l h' f=some v'→zVa [v']=zVa [Value.slice a n c]∨zVa [v']=[]:=by
  intro a l h' f n c hh
  unfold zrc at hh
  split at hh
  ·cases hh; exact .inr rfl
  ·split at hh
   ·cases hh
   ·cases hh; exact .inl rfl
 unfold zLa at h
 split at h
 ·rename_i a len c
  split at h
  ·split at h
   ·split at h
    ·split at h
     ·exact hr h
     ·split at h
      ·exact hr h
      ·cases h
    ·cases h
   ·cases h
  ·cases h
 ·cases h
theorem Smv.slice{lo hi mx:Option Value}{size:Nat}(hv:Smv Γ v)(h:zLa size v lo hi mx=some w):Smv Γ w:=fun H H' A B h1 h2=>by
 rcases zRI h with e|e
 ·rw[e]; exact hv H H' A B h1 h2
 ·rw[e]; rfl
theorem Smv.own{cs:List Value}(h:OwnB v xs cs):Smv (Γ++zFa v cs) v:=fun H H' A B h1 h2=>by
 rcases h with⟨rfl,rfl,rfl⟩|⟨p,hv,h3,h4,h5⟩
 ·rfl
 ·have e:zFa v cs=[(p,⟨cs,true⟩)]:=by rcases hv with rfl|⟨rfl,_⟩ <;> rfl
  rw[e] at h1 h2
  have:=zlb (o:=0) h1 (Γ.length+0) (zwa (zqa rfl)) h2 (Γ.length+0) (zwa (zqa rfl)) h5
  rcases hv with rfl|⟨rfl,_⟩ <;> exact this
theorem zQL{p o q:Nat}{n c:Nat}{w:Value}(h:p≠q)(hw:∀ i,zFG w=some i→p≠i):zPj (zVa [ptr p o]) (zVa [sl q 0 n c,w]):=by
 have e1:zVa [ptr p o]=[p]:=rfl
 have e2:zVa [sl q 0 n c,w]=q::zVa [w]:=rfl
 rw[e1,e2]
 have hb:∀ {a b:Nat},a≠b→Nat.beq a b=false:=fun {a b} hne=>by
  cases h:Nat.beq a b with
  | false=>rfl
  | true=>exact absurd (Nat.eq_of_beq_eq_true h) hne
 cases hi:zFG w with
 | none=>
  have e3:zVa [w]=[]:=by unfold zVa; rw[List.filterMap_cons,hi]; rfl
  rw[e3]
  unfold zPj zDe
  show cond (not (zGD p [q])) true false=true
  have:zGD p [q]=false:=by
   unfold zGD
   rw[zJb]
   simp[hb h,hb (Ne.symm h)]
  rw[this]; rfl
 | some i=>
  have e3:zVa [w]=[i]:=by unfold zVa; rw[List.filterMap_cons,hi]; rfl
  rw[e3]
  have h2:=hw i hi
  unfold zPj zDe
  show cond (not (zGD p [q,i])) true false=true
  have:zGD p [q,i]=false:=by
   unfold zGD
   rw[zJb]
   simp[hb h,hb (Ne.symm h),hb h2,hb (Ne.symm h2)]
  rw[this]; rfl
end J
set_option maxRecDepth 100000
namespace J
open Go Go.Ab
variable{H:Heap}{Γ Γ0 Γ2 Δ G:List (Nat × Blk)}{K:VH}{v w x:Value}{xs ys bs:List Int}{j p:Nat}{e:Int}{ss tt:List (List Int)}
abbrev MadeG(Γ:List (Nat × Blk))(K:VH)(f:Fr):Prop:=∀ (H':Heap) (v':Value) (cs':List Value),St H' (Γ++zFa v' cs')→OwnB v' f.body cs'→K (.tuple [zgb .u8 f.kind,zgb .u64 f.seq,v',int ((64 * f.many:Nat):Int)].toArray) H'
theorem MadeG.none(h:MadeG Γ K fr0)(hO:St H Γ):K (.tuple [.int .u8 0,.int .u64 0,zya,.int .i64 0].toArray) H:=h H zya [] (by show St H (Γ++[]); rw[List.append_nil]; exact hO) OwnB.nil
theorem zSI{s r:List Int}(h:s.length=64){a n:Nat}(ha:a+n≤13)(h3:3≤a):((((s++r).drop 3).take 10).drop (a - 3)).take n=(s.drop a).take n:=by
 rw[List.drop_take,List.drop_drop,List.take_take,show 3+(a - 3)=a by omega,show min n (10 - (a - 3))=n by omega,List.drop_append_of_le_length (by omega),List.take_append_of_le_length (by rw[List.length_drop]; omega)]
set_option maxHeartbeats 8000000 in
theorem zBD(hO:St H Γ)(hv:RdB Γ v ss.flatten)(hsm:Smv Γ v)(hs:S64 ss)(hb:∀ s ∈ ss,By s)(hl:ss.length≤1000000)(hk:MadeG Γ K (zQd ss)):wCall P zOi [v] H K:=by
 apply zBy; unfold zAy
 have hfl:=zrq hs
 have hfb:=zOL hb
 match ss,hv,hs,hb,hl,hk,hfl,hfb with
 | [],hv,hs,hb,hl,hk,hfl,hfb=>
  refine zqd ?_
  refine zAa hv.lenSl ?_
  refine zaa zKa ?_
  refine zfw (by simp) ?_
  refine zaa (zxb (by simp)) ?_
  refine zaa zQb ?_
  try simp only[zja,zka]
  refine zxe rfl ?_
  exact MadeG.none hk hO
 | s::r,hv,hs,hb,hl,hk,hfl,hfb=>
 have hsl:s.length=64:=hs s List.mem_cons_self
 have hsb:By s:=hb s List.mem_cons_self
 have kl:=zSw hsb
 have nl:=zEF hsb
 have ql:=zOA hsb
 have hlen:64≤(s::r).flatten.length:=by rw[hfl,List.length_cons]; omega
 have hg:∀ i,(hi:i < 64)→(s::r).flatten[i]'(by omega)=s[i]'(by omega):=fun i hi=>by
  have:=znG hs (y:=0) (i:=i) (by simp) hi
  rw[show 64 * 0+i=i by omega,List.getElem?_eq_getElem (by omega),List.getElem?_eq_getElem (by show i < s.length; omega)] at this
  exact Option.some.inj this
 have hs2:s.take 2=[s[0]'(by omega),s[1]'(by omega)]:=by
  match s,hsl with
  | a::b::t,_=>rfl
 refine zxa (fun l' H'=>l'=[v,.int .u8 0,.int .u64 0,zya,int 0,.bool (decide (s.take 2≠[66,74]))]∧H'=H) ?_ ?_
 ·refine zAa hv.lenSl ?_
  refine zaa zKa ?_
  refine zrp (by omega) ?_
  refine byte_at (n:=0) hO hv rfl (by omega) ?_
  rw[hg 0 (by omega)]
  refine zaa zJa ?_
  refine zaa (zEb (by omega)) ?_
  refine zia (fun h=>?_) (fun h=>?_)
  ·refine zaa (zxb h) ?_
   rw[decide_eq_true (show s.take 2≠[66,74] from fun h2=>h (by rw[hs2] at h2; simp at h2; exact h2.1))]
   exact⟨rfl,rfl⟩
  ·refine byte_at (n:=1) hO hv rfl (by omega) ?_
   rw[hg 1 (by omega)]
   refine zaa zJa ?_
   refine zaa (zEb h) ?_
   rw[decide_eq_decide.2 (show s[1]'(by omega)≠74↔s.take 2≠[66,74] from by rw[hs2]; simp at h ⊢; simp[h])]
   exact⟨rfl,rfl⟩
 rintro l' H' ⟨rfl,rfl⟩
 try simp only[zja,zka]
 have hget:zQd (s::r)=if ztC (s::r) s then fr0 else if zih (zdh s) (zsr s) (zsk (s::r) s)≠(s::r).take (zOb (zue s)) then fr0 else⟨zdh s,zsr s,zsk (s::r) s,zOb (zue s)⟩:=rfl
 rw[hget] at hk
 clear hget
 refine zia (fun h=>?_) (fun h=>?_)
 ·rw[if_pos (show ztC (s::r) s from .inl h)] at hk
  exact MadeG.none hk hO
 obtain⟨v2,e2,i2⟩:=zWk (i:=3) (n:=10) (mx:=none) hv (by omega) (.inl rfl)
 refine zaa e2 ?_
 have r2:=i2 _ hv
 obtain⟨a2,n2,c2,ev2⟩:=r2.shape
 refine zaa (show (zDa P 145).f [(0,v2)]=some (agg [v2,int 0]) by rw[ev2]; exact zKM _ _ _) ?_
 refine zCa hO ?_
 intro pr H hO'
 replace hO':St H (Γ++[(pr,rdr v2 0)]):=hO'
 have t8:=zSI (r:=r.flatten) hsl (a:=3) (n:=8) (by omega) (by omega)
 have t2:=zSI (r:=r.flatten) hsl (a:=11) (n:=2) (by omega) (by omega)
 rw[show 3 - 3=0 from rfl,List.drop_zero] at t8
 rw[show 11 - 3=8 from rfl] at t2
 have hxl:(((s::r).flatten.drop 3).take 10).length=10:=by rw[List.length_take,List.length_drop]; omega
 have hxb:By (((s::r).flatten.drop 3).take 10):=fun x hx=>hfb x (List.mem_of_mem_drop (List.mem_of_mem_take hx))
 rw[List.flatten_cons] at r2 hxl hxb
 generalize ((s++r.flatten).drop 3).take 10=X at r2 hxl hxb t8 t2
 obtain⟨a1,a2',a3⟩:=zEf (xs:=X) (n:=8) (by omega)
 refine zAh (k:=8) (by omega) hO' (zqa (k:=0) rfl) r2.app (by omega) hxb ?_
 rw[a1,a2',t8]
 clear hO'
 intro H v3 hO' i3
 unfold rdN at hO'
 rw[a3,Go.Ab.set_r] at hO'
 replace hO':St H (Γ++[(pr,rdr v3 0)]):=hO'
 have r3:=i3 _ r2
 obtain⟨b1,b2,b3⟩:=zEf (xs:=X.drop 8) (n:=2) (by rw[List.length_drop]; omega)
 refine zAh (k:=2) (by omega) hO' (zqa (k:=0) rfl) r3.app (by rw[List.length_drop]; omega) (fun x hx=>hxb x (List.mem_of_mem_drop hx)) ?_
 rw[b1,b2,t2]
 clear hO'
 intro H v4 hO' i4
 unfold rdN at hO'
 rw[b3,Go.Ab.set_r] at hO'
 replace hO':=hO'.left
 show opW (zob .i64 (zgb .u64 (zue s)) H) _
 refine zAa (zby (by omega)) ?_
 refine zDm ?_
 have hm2:zOb (zue s)≤2000:=by unfold zOb; split <;> omega
 refine zaa (v:=int ((64 * zOb (zue s):Nat):Int)) (by rw[zWm (by omega) (by omega)]; congr 2 <;> omega) ?_
 have hlen2:(s::r).flatten.length=64 * (s::r).length:=hfl
 refine zxa (fun l' H2=>l'=[v,.int .u8 0,.int .u64 0,zya,int 0,zgb .u64 (zsr s),int (zue s),int ((64 * zOb (zue s):Nat):Int),.bool (decide (zOb (zue s)=0∨(s::r).length < zOb (zue s)))]∧H2=H) ?_ ?_
 ·refine zaa zYa ?_
  refine zia (fun h2=>?_) (fun h2=>?_)
  ·refine zaa (zxb h2) ?_
   rw[decide_eq_true (.inl (by omega))]
   exact⟨rfl,rfl⟩
  ·refine zAa hv.lenSl ?_
   refine zaa zZb ?_
   refine zaa (zEb h2) ?_
   rw[decide_eq_decide.2 (show (((s::r).flatten.length:Nat):Int) < ((64 * zOb (zue s):Nat):Int)↔zOb (zue s)=0∨(s::r).length < zOb (zue s) from by rw[hlen2]; omega)]
   exact⟨rfl,rfl⟩
 rintro l' H2 ⟨rfl,rfl⟩
 try simp only[zja,zka]
 refine zia (fun h2=>?_) (fun h2=>?_)
 ·rw[if_pos (show ztC (s::r) s from .inr h2)] at hk
  exact MadeG.none hk hO'
 rw[if_neg (show ¬ ztC (s::r) s from fun h3=>h3.elim h h2)] at hk
 have hm0:zOb (zue s)≠0:=fun h3=>h2 (.inl h3)
 have hml:zOb (zue s)≤(s::r).length:=by omega
 have hn4:zue s≤4000∧zOb (zue s)=(zue s+79) / 63:=by
  have e:zOb (zue s)=if (zue s:Int) < 0∨4000 < (zue s:Int) then 0 else ((zue s:Int).toNat+79) / 63:=rfl
  by_cases hc:(zue s:Int) < 0∨4000 < (zue s:Int)
  ·rw[if_pos hc] at e; exact absurd e hm0
  ·rw[if_neg hc] at e
   exact⟨by omega,by rw[e]; rfl⟩
 generalize hM:zOb (zue s)=M at *
 refine zEa hO' (zXl _) ?_
 clear hO'
 intro q H hO'
 have hO2:St H (Γ++zFa (sl q 0 0 3) []):=hO'
 clear hO'
 refine zIq (fun k l' H'=>∃ (i:Nat) (w:Value) (cs:List Value),i≤64 * M∧k=64 * M - i∧l'=[v,.int .u8 0,.int .u64 0,zya,int 0,zgb .u64 (zsr s),int (zue s),int ((64 * M:Nat):Int),w,int i]∧St H' (Γ++zFa w cs)∧OwnB w (itp (s::r).flatten i) cs) _ _ ?_ (64 * M) _ _ ⟨0,_,_,by omega,rfl,rfl,hO2,.inr ⟨q,.inr ⟨rfl,rfl⟩,rfl,Nat.zero_le _,rfl⟩⟩
 clear hO2
 rintro k l' H ⟨i,w,cs,hi,rfl,rfl,hO',hw⟩
 unfold zTp
 try simp only[zja,zka]
 refine zaa zKa ?_
 refine zia (fun h3=>?_) (fun h3=>?_)
 ·have hlt:i < (s::r).flatten.length:=by rw[hlen2]; omega
  have hil:=zpG (p:=(s::r).flatten) i
  have hgd:(s::r).flatten.getD i 0=(s::r).flatten[i]:=by rw[List.getD_eq_getElem?_getD,List.getElem?_eq_getElem hlt]; rfl
  refine zaa (zan (k:=.i64) (b:=64) (by omega)) ?_
  refine zaa zJa ?_
  refine zia (fun h4=>?_) (fun h4=>?_)
  ·refine byte_at (n:=i) hO' hv.app rfl hlt ?_
   refine zEa hO' (zoi _ _ _) ?_
   clear hO'
   intro q3 H hO'
   refine zAb (ys:=[(s::r).flatten[i]]) hO' hw (by show _+1≤_; omega) rfl (.inr rfl) ?_
   clear hO' hw
   intro H w cs hO' hw
   repeat refine oi ?_
   refine⟨_,by omega,i+1,w,cs,by omega,rfl,rfl,hO',?_⟩
   show OwnB w (itp (s::r).flatten i++(if i % 64≠63 then [(s::r).flatten.getD i 0] else [])) cs
   rw[if_pos (by omega),hgd]
   exact hw
  ·repeat refine oi ?_
   refine⟨_,by omega,i+1,w,cs,by omega,rfl,rfl,hO',?_⟩
   show OwnB w (itp (s::r).flatten i++(if i % 64≠63 then [(s::r).flatten.getD i 0] else [])) cs
   rw[if_neg (by omega),List.append_nil]
   exact hw
 have ei:i=64 * M:=by omega
 subst ei
 clear h3 hi
 rw[zwz hs M hml] at hw
 have hpl:(zch ((s::r).take M)).length=M * 63:=by
  rw[zYo (fun x hx=>hs x (List.mem_of_mem_take hx)),List.length_take,Nat.min_eq_left hml]
 have hpb:By (zch ((s::r).take M)):=fun x hx=>by
  unfold zch at hx
  obtain⟨t,ht,hx⟩:=List.mem_flatMap.1 hx
  exact hb t (List.mem_of_mem_take ht) x (List.mem_of_mem_take hx)
 have hbody:zsk (s::r) s=((zch ((s::r).take M)).drop 13).take (zue s):=by unfold zsk; rw[hM]
 rw[hbody] at hk
 generalize zch ((s::r).take M)=PL at hk hw hpl hpb
 refine zeb rfl ?_
 try simp only[zja,zka]
 refine zaa (v:=int ((13+zue s:Nat):Int)) (by rw[zyb (by omega) (by omega)]; congr 2 <;> omega) ?_
 have hwr:=hw.rd.app' (Γ:=Γ)
 obtain⟨v5,e5,i5⟩:=zWk (i:=13) (n:=zue s) (mx:=none) hwr (by omega) (.inl rfl)
 refine zaa e5 ?_
 have hws:Smv (Γ++zFa w cs) v5:=Smv.slice (Smv.own hw) e5
 have r5:=i5 _ hwr
 have hid5:∀ i,zFG v5=some i→∃ c,zFa w cs=[(i,⟨c,true⟩)]:=fun i hi=>by
  rcases zRI e5 with h6|h6
  ·have h7:zVa [w]=[i]:=by rw[← h6]; unfold zVa; rw[List.filterMap_cons,hi]; rfl
   rcases hw with⟨rfl,_⟩|⟨pw,rfl|⟨rfl,_⟩,_⟩
   ·cases h7
   ·cases h7; exact⟨_,rfl⟩
   ·cases h7; exact⟨_,rfl⟩
  ·have h7:zVa [v5]=[i]:=by unfold zVa; rw[List.filterMap_cons,hi]; rfl
   rw[h6] at h7; cases h7
 have hbl:((PL.drop 13).take (zue s)).length=zue s:=by rw[List.length_take,List.length_drop]; omega
 have hbb:By ((PL.drop 13).take (zue s)):=fun x hx=>hpb x (List.mem_of_mem_drop (List.mem_of_mem_take hx))
 generalize (PL.drop 13).take (zue s)=body at hk r5 hbl hbb
 refine byte_at (n:=2) hO' hv.app rfl (by omega) ?_
 rw[hg 2 (by omega)]
 have hkd:(.int .u8 (s[2]'(by omega)):Value)=zgb .u8 (zdh s):=by
  have hx:=hsb _ (List.getElem_mem (show 2 < s.length by omega))
  rw[zvf hx.1]
  congr 1
  have:(s.drop 2).take 1=[s[2]'(by omega)]:=by
   rw[List.drop_eq_getElem_cons (by omega)]; rfl
  unfold zdh
  rw[this]
  simp[leV]
 rw[hkd]
 have hfp:zih (zdh s) (zsr s) body=zae (zll (zdh s) (zsr s) body):=zVA (by omega)
 refine zqq hO' r5 hbb (by omega) kl ql ?_
 intro H2 v6 c6 hO2 h6
 unfold byB at h6
 rw[← hfp] at h6
 have hby6:By (zih (zdh s) (zsr s) body).flatten:=by
  rw[hfp]
  have:=zmG (kind:=zdh s) (seq:=zsr s) (body:=body)
  unfold byB at this
  rw[← this]
  have hq:By (plB (zdh s) (zsr s) body):=by
   unfold plB
   refine By.app' ?_ ?_
   ·exact By.app' (zPw kl hbb) (zrC _ _)
   ·intro x hx
    have:=(List.mem_replicate.1 hx).2
    omega
  have hq2:∀ n,By (its (plB (zdh s) (zsr s) body) n):=by
   intro n
   induction n with
   | zero=>intro x hx; cases hx
   | succ n ih=>
    refine By.app' ih ?_
    intro x hx
    rcases List.mem_cons.1 hx with rfl|hx
    ·rw[List.getD_eq_getElem?_getD]
     by_cases hn:n < (plB (zdh s) (zsr s) body).length
     ·rw[List.getElem?_eq_getElem hn]; exact hq _ (List.getElem_mem hn)
     ·rw[List.getElem?_eq_none (by omega)]; decide
    ·split at hx
     ·have:x=0:=by simpa using hx
      omega
     ·cases hx
  exact hq2 _
 refine zAa (h6.rd.app'.str hO2) ?_
 obtain⟨v7,e7,i7⟩:=zGw (n:=64 * M) hv (by rw[hlen2]; omega)
 refine zaa e7 ?_
 have r7:=(i7 _ hv)
 rw[zoG hs] at r7
 have hby7:By ((s::r).take M).flatten:=zOL fun x hx=>hb x (List.mem_of_mem_take hx)
 refine zAa (r7.app.app.str hO2) ?_
 refine⟨(Smv.slice hsm e7) H H2 _ (zFa w cs++zFa v6 c6) hO' (by rw[← List.append_assoc]; exact hO2),?_⟩
 refine zaa (zDF _ _ hby6 hby7) ?_
 have hiff:(zih (zdh s) (zsr s) body).flatten≠((s::r).take M).flatten↔zih (zdh s) (zsr s) body≠(s::r).take M:=
  not_congr ⟨fun h=>zPI zZi (fun x hx=>hs x (List.mem_of_mem_take hx)) h,fun h=>by rw[h]⟩
 refine zia (fun h3=>?_) (fun h3=>?_)
 ·rw[if_pos (hiff.1 h3)] at hk
  exact MadeG.none hk hO2.left.left
 rw[if_neg (fun h4=>h3 (hiff.2 h4))] at hk
 have hO3:=hO2.left
 clear hO' hO2
 obtain⟨p2,o2,c2,j2,b2,ev,hj2,hc2⟩:=hv.at (i:=2) (by omega)
 subst ev
 refine zaa (zHa (by omega) (by omega)) ?_
 refine zha hO3 j2 (zwa hj2) (v:=zgb .u8 (zdh s)) (by
  rw[show o2+(2:Int).toNat * 1=o2+2 from rfl,hc2,hg 2 (by omega),hkd]) ?_
 refine zEa hO3 (zXl _) ?_
 clear hO3
 intro q4 H hO3
 have hO4:St H ((Γ++zFa w cs)++zFa (sl q4 0 0 3) []):=hO3
 have hne:p2≠q4:=hO3.ne (zwa (zwa hj2)) (zqa (k:=0) rfl) (by
  have:=(List.getElem?_eq_some_iff.1 hj2).1
  rw[List.length_append]; omega)
 have hne2:∀ i,zFG v5=some i→p2≠i:=fun i hi=>by
  obtain⟨c,hc⟩:=hid5 i hi
  rw[hc] at hO3
  exact hO3.ne (zwa (zwa hj2)) (zwa (zqa (k:=0) rfl)) (by
   have:=(List.getElem?_eq_some_iff.1 hj2).1
   omega)
 refine zVd (xs:=[]) (ys:=body) (cs:=[]) hO4 (.inr ⟨q4,.inr ⟨rfl,rfl⟩,rfl,Nat.le_refl _,rfl⟩) r5 (by show 0+_≤_; omega) ?_
 clear hO3 hO4
 intro H v8 c8 hO4 h8
 refine⟨zQL hne hne2,?_⟩
 exact hk H v8 c8 (St.mid hO4) h8
end J
set_option maxRecDepth 100000
namespace J
open Go Go.Ab
variable{H:Heap}{Γ Γ0 Γ2 Δ G:List (Nat × Blk)}{K:VH}{v w x:Value}{xs ys bs:List Int}{j p:Nat}{e:Int}{d:Dv}{a:Int}{s:List Int}{R:Rl}{m:Mp}{part pos:Int}{M:Rm}
structure Rm.Eq (M M':Rm):Prop where
 m:M'.pm=M.pm
 d:M'.r.pd=M.r.pd
theorem Rm.Eq.rfl'{M:Rm}:Rm.Eq M M:=⟨rfl,rfl⟩
theorem Rm.Eq.trans{M M' M2:Rm}(h:Rm.Eq M M')(h2:Rm.Eq M' M2):Rm.Eq M M2:=⟨h2.m.trans h.m,h2.d.trans h.d⟩
set_option maxHeartbeats 1000000 in
theorem zxz(ok:m.Ok)(hs:m.Sm 1000000)(hM:RMok M m)(hO:St H (Γ++RM M m))
  (hk:∀ H' M',St H' (Γ++RM M' (m.erase part pos).1)→M.Eq M'→RMok M' (m.erase part pos).1→K (int (m.erase part pos).2) H'):wCall P zQi [ptr M.pm 0,int part,int pos] H K:=by
 apply zfu; unfold zPs
 refine zEk ok hM hO ?_
 refine zaa zEj ?_
 refine zaa zFj ?_
 unfold Mp.erase at hk
 refine zxa (fun l' H'=>∃ (M':Rm) (d':Dv) (e':Int),l'=[ptr M.pm 0,int part,int pos,int e']∧St H' (Γ++RM M' { m with d:=d' })∧M.Eq M'∧RMok M' { m with d:=d' }∧((m.place part pos).2≠0∧d'=m.d∧e'=(m.place part pos).2∨(m.place part pos).2=0∧d'=(m.d.erase (m.place part pos).1).1∧e'=(m.d.erase (m.place part pos).1).2)) ?_ ?_
 ·refine zaa zYa ?_
  refine zia (fun h=>?_) (fun h=>?_)
  ·refine zaa zga ?_
   refine zaa zfa ?_
   refine zha hO (Γ.length+0) (zqa rfl) (v:=ptr M.r.pd 0) rfl ?_
   refine zpz ok.d hs.1 hM.r (RM.toD hO) ?_
   clear hO
   intro H R' hO hp hR
   exact⟨{ M with r:=R' },_,_,rfl,RM.dev hp hO,⟨rfl,hp⟩,⟨hR,hM.o,hM.s⟩,.inr ⟨h,rfl,rfl⟩⟩
  ·exact⟨M,m.d,_,rfl,hO,Rm.Eq.rfl',hM,.inl ⟨h,rfl,rfl⟩⟩
 clear hO
 rintro l' H ⟨M',d',e',rfl,hO,he,hM',hc⟩
 try simp only[zja,zka]
 refine zaa zYa ?_
 rw[← he.m]
 refine zia (fun h=>?_) (fun h=>?_)
 ·rcases hc with⟨hp,rfl,rfl⟩|⟨hp,rfl,rfl⟩
  ·exact absurd h hp
  rw[if_neg (by rw[hp]; simp)] at hk
  unfold Mp.note at hk
  simp only[if_pos h] at hk
  refine zaa zga ?_
  refine zaa zfa ?_
  refine zha hO (Γ.length+0) (zqa rfl) (v:=M'.vo) rfl ?_
  refine zaa zga ?_
  refine zaa zfa ?_
  refine zha hO (Γ.length+0) (zqa rfl) (v:=int m.who) rfl ?_
  refine zaa (zhN _ _ _ _) ?_
  refine zEa hO (zCM _ _) ?_
  clear hO
  intro q H hO
  refine zoz (by exact Nat.le_trans hs.2 (by omega)) hM' hO ?_
  clear hO
  intro H vo' hv hO
  obtain⟨a1,n1,c1,e1⟩:=zwv hv
  refine zaa zga ?_
  refine zaa zfa ?_
  refine zua hO (Γ.length+0) (zqa rfl) (by rw[e1]; rfl) (show 3 < 4 by omega) rfl ?_
  clear hO
  intro H hO
  replace hO:=hO.set_r
  exact hk H { M' with vo:=vo' } hO ⟨he.m,he.d⟩ ⟨hM'.r,hv,hM'.s⟩
 ·rcases hc with⟨hp,rfl,rfl⟩|⟨hp,rfl,rfl⟩
  ·rw[if_pos hp] at hk
   exact hk H M' hO he hM'
  ·rw[if_neg (by rw[hp]; simp)] at hk
   unfold Mp.note at hk
   simp only[if_neg h] at hk
   exact hk H M' hO he hM'
theorem zyz:(m.erase part pos).1.spans=m.spans:=by
 unfold Mp.erase
 split
 ·rfl
 ·unfold Mp.note
  split <;> rfl
set_option maxHeartbeats 1000000 in
theorem zlB{N:Nat}(ok:m.Ok)(hs:m.Sm N)(hN:N+5000≤1000000)(hM:RMok M m)(hO:St H (Γ++RM M m))
  (hk:∀ H' M',St H' (Γ++RM M' (m.wipe part).1)→M.Eq M'→RMok M' (m.wipe part).1→K (int (m.wipe part).2) H'):wCall P zth [ptr M.pm 0,int part] H K:=by
 apply zyw; unfold zdv
 unfold Mp.wipe at hk
 refine zxa (fun l' H'=>l'=[ptr M.pm 0,int part,int 0]∧H'=H∧m.has part) ?_ ?_
 ·refine zaa zKa ?_
  refine zia (fun h=>?_) (fun h=>?_)
  ·refine zaa (zxb h) ?_
   rw[if_pos (show ¬ m.has part from fun h2=>by have:=h2.1; omega)] at hk
   refine zxe rfl ?_
   exact hk _ M hO Rm.Eq.rfl' hM
  ·refine zaa zga ?_
   refine zaa zfa ?_
   refine zha hO (Γ.length+0) (zqa rfl) (v:=sl M.ps 0 m.spans.length 3) rfl ?_
   refine zAa zOk ?_
   refine zaa zNg ?_
   refine zaa (zEb h) ?_
   refine zia (fun h2=>?_) (fun h2=>?_)
   ·rw[if_pos (show ¬ m.has part from fun h3=>by have:=h3.2; omega)] at hk
    exact hk _ M hO Rm.Eq.rfl' hM
   ·exact⟨rfl,rfl,by omega,by omega⟩
 rintro l' H' ⟨rfl,rfl,h⟩
 try simp only[zja,zka]
 rw[if_neg (fun h'=>h' h)] at hk
 have hsz:m.size part≤4096:=Mp.size_le ok
 have hszr:m.size part=(m.span part).2:=by unfold Mp.size; rw[if_pos h]
 refine zLo (fun k l' H'=>∃ (y:Nat) (M2:Rm) (m2:Mp),y≤m.size part∧k=m.size part - y∧l'=[ptr M.pm 0,int part,int 0,int y]∧M.Eq M2∧m2.spans=m.spans∧m2.Ok∧m2.Sm (N+y)∧St H' (Γ++RM M2 m2)∧RMok M2 m2∧Mp.wipeN part (m.size part) 0 m=Mp.wipeN part (m.size part - y) y m2) _ _ ?_ (m.size part) _ _ ⟨0,M,m,by omega,rfl,rfl,Rm.Eq.rfl',rfl,ok,hs,hO,hM,rfl⟩
 clear hO hM
 rintro k l' H ⟨y,M2,m2,hy,rfl,rfl,he,hsp,ok2,hs2,hO,hM2,hw⟩
 have h2:m2.has part:=by unfold Mp.has; rw[hsp]; exact h
 have hspan:(m2.span part).2=m.size part:=by rw[hszr]; unfold Mp.span; rw[hsp]
 unfold zBn
 try simp only[zja,zka]
 rw[← he.m]
 refine zaa zga ?_
 refine zaa zfa ?_
 refine zha hO (Γ.length+0) (zqa rfl) (v:=sl M2.ps 0 m2.spans.length 3) rfl ?_
 refine zaa (zHa h2.1 h2.2) ?_
 refine zha hO (Γ.length+1) (zqa rfl) (v:=int (m2.span part).2) (by rw[Nat.zero_add,Nat.mul_one]; exact zjB h2) ?_
 rw[hspan]
 refine zaa zKa ?_
 refine zia (fun h1=>?_) (fun h1=>?_)
 ·have hyl:y < m.size part:=by omega
  rw[show m.size part - y=(m.size part - (y+1))+1 by omega] at hw
  rw[Mp.wipeN_succ] at hw
  refine zxt ok2 (hs2.mono (by omega)) hM2 hO ?_
  clear hO
  intro H hO
  have hl:=Mp.read_len ok2 (part:=part) (pos:=(y:Int))
  refine zaa zEj ?_
  refine zaa zFj ?_
  rw[zcS]
  refine zCa hO ?_
  clear hO
  intro p6 H hO
  refine zoa hO (_+0) (zqa rfl) (by rw[zsa]; rfl) (by rw[zsa]; exact hl) (zsb _) ?_
  clear hO
  intro H hO
  replace hO:=hO.set_r
  refine zma hO (_+0) (zqa rfl) (by rw[zsa]; exact hl) (by omega) ?_
  refine zBh hO ?_
  intro H2 hO2
  refine⟨zlb hO (_+0) (zqa rfl) hO2 (_+0) (zqa rfl) (zGg _),?_⟩
  clear hO
  have hO:=hO2.left
  clear hO2
  refine zaa (eqS _ hl rfl) ?_
  refine zia (fun h3=>?_) (fun h3=>?_)
  ·rw[if_pos h3] at hw
   repeat refine oi ?_
   exact⟨_,by omega,y+1,M2,m2,by omega,rfl,by rw[he.m]; rfl,he,hsp,ok2,hs2.mono (by omega),hO,hM2,hw⟩
  ·rw[if_neg h3] at hw
   refine zxz ok2 (hs2.mono (by omega)) hM2 hO ?_
   clear hO
   intro H M3 hO he3 hM3
   refine zaa zJa ?_
   refine zia (fun h4=>?_) (fun h4=>?_)
   ·rw[if_pos h4] at hw
    try simp only[zja,zka]
    rw[hw] at hk
    exact hk _ M3 hO (he.trans he3) hM3
   ·rw[if_neg h4] at hw
    repeat refine oi ?_
    exact⟨_,by omega,y+1,M3,_,by omega,rfl,by rw[he.m]; rfl,he.trans he3,zyz.trans hsp,Mp.erase_ok ok2,(Mp.erase_sm hs2).mono (by omega),hO,hM3,hw⟩
 ·have ey:y=m.size part:=by omega
  subst ey
  rw[Nat.sub_self] at hw
  rw[Mp.wipeN_zero] at hw
  rw[hw] at hk
  refine zeb rfl ?_
  try simp only[zja,zka]
  exact hk _ M2 hO he hM2
theorem zmB(hM:RMok M m)(hO:St H (Γ++RM M m))
  (hk:∀ H',St H' ((Γ++zFa M.vo (zQh m.ops))++RM { M with vo:=zya } { m with ops:=[] })→RMok { M with vo:=zya } { m with ops:=[] }→K M.vo H'):wCall P zTj [ptr M.pm 0] H K:=by
 apply zrw; unfold zWu
 refine zaa zga ?_
 refine zaa zfa ?_
 refine zha hO (Γ.length+0) (zqa rfl) (v:=M.vo) rfl ?_
 refine zaa zga ?_
 refine zaa zfa ?_
 refine zua hO (Γ.length+0) (zqa rfl) rfl (show 3 < 4 by omega) rfl ?_
 clear hO
 intro H hO
 replace hO:=hO.set_r
 refine hk H ?_ ⟨hM.r,.inl ⟨rfl,rfl,rfl⟩,hM.s⟩
 have h3:St H (Γ++(RMa { M with vo:=zya } { m with ops:=[] }++(zFa M.vo (zQh m.ops)++RW M.r m.d))):=hO
 refine h3.perm ?_
 show (Γ++(RMa _ _++(zFa M.vo (zQh m.ops)++RW M.r m.d))).Perm ((Γ++zFa M.vo (zQh m.ops))++(RMa _ _++([]++RW M.r m.d)))
 exact (by classical exact List.perm_iff_count.2 fun _=>by simp only[List.count_append,List.count_nil,List.set_cons_zero]; omega)
def kOp:List CK:=[.i .i64,.i .i64,.i .i64,.i .i64]
theorem fOp:flatK P 100 124=some kOp:=by kernel_rfl
theorem zoK(o:Op):Fit kOp (opC o):=⟨rfl,rfl,rfl,rfl,trivial⟩
theorem zyN(o:Op)(c:Bool):(zta P .neq 124 c).f (agg (opC o)) (agg (opC o))=some (.bool false):=by
 rw[zgs fOp (by kernel_rfl) (by kernel_rfl) (zoK o) (zoK o),zNf (zoK o)]; rfl
theorem znB{v w:Value}{l:List Op}{i1 i2:Nat}(hO:St H Γ)(h1:Own 4 v l.length (zQh l))(h2:Own 4 w l.length (zQh l))(g1:l≠[]→∃ p c,v=sl p 0 l.length c∧Γ[i1]?=some (p,⟨zQh l,true⟩))(g2:l≠[]→∃ p c,w=sl p 0 l.length c∧Γ[i2]?=some (p,⟨zQh l,true⟩))(hl:l.length≤1000000000)(hk:K (.bool true) H):wCall P zrh [v,w] H K:=by
 apply zqw; unfold zVu
 refine zAa h1.lenSl ?_
 refine zAa h2.lenSl ?_
 refine zaa zJa ?_
 refine zrp (by simp) ?_
 refine zAa h1.lenSl ?_
 refine zGo (fun k l' H'=>∃ y:Nat,y≤l.length∧k=l.length - y∧l'=[v,w,.bool false,int l.length,int y]∧H'=H) _ _ ?_ l.length _ _ ⟨0,by omega,rfl,rfl,rfl⟩
 rintro k l' H' ⟨y,hy,rfl,rfl,rfl⟩
 unfold zjn
 try simp only[zja,zka]
 refine zaa zKa ?_
 refine zia (fun h=>?_) (fun h=>?_)
 ·have hyl:y < l.length:=by omega
  have hne:l≠[]:=fun h=>by rw[h] at hyl; cases hyl
  obtain⟨p,c,rfl,hp⟩:=g1 hne
  obtain⟨q,c',rfl,hq⟩:=g2 hne
  have hat:((zQh l).drop (0+((y:Nat):Int).toNat * 4)).take 4=opC l[y]:=by
   have:=zym (f:=opC) (o:=0) (m:=4) (n:=4) (l:=l) (fun _ _=>rfl) hyl (by omega)
   rw[show 0+((y:Nat):Int).toNat * 4=y * 4+0 by omega]
   unfold zQh
   rw[this]; rfl
  refine zaa (zHa (by omega) (by omega)) ?_
  refine zBa hO i1 hp hat rfl (by omega) ?_
  refine zaa (zHa (by omega) (by omega)) ?_
  refine zBa hO i2 hq hat rfl (by omega) ?_
  refine zaa (zyN _ _) ?_
  refine zUd rfl ?_
  repeat refine oi ?_
  exact⟨_,by omega,y+1,by omega,rfl,rfl,by first|rfl|trivial⟩
 ·have ey:y=l.length:=by omega
  subst ey
  exact hk
end J
set_option maxRecDepth 100000
namespace J
open Go Go.Ab
variable{H:Heap}{Γ Γ0 Γ2 Δ G B:List (Nat × Blk)}{K:VH}{v w x:Value}{xs ys bs:List Int}{j p:Nat}{e:Int}{ss tt:List (List Int)}{m:Mp}{part pos:Int}{M:Rm}{t:Jn}
theorem zzN(H:Heap):(zpa P 94 0).f [] H=some (sl H.next 0 0 3,H.push []):=by kernel_rfl
theorem zAN(l:List Int)(H:Heap):(zpa P 94 1).f [(0,zEm l)] H=some (sl H.next 0 1 3,H.push [zEm l]):=by kernel_rfl
theorem x0{a:Value}{l:List Value}:zjc 0 (.tuple (a::l).toArray)=some a:=rfl
theorem x1{a b:Value}{l:List Value}:zjc 1 (.tuple (a::b::l).toArray)=some b:=rfl
theorem x2{a b c:Value}{l:List Value}:zjc 2 (.tuple (a::b::c::l).toArray)=some c:=rfl
theorem x3{a b c d:Value}{l:List Value}:zjc 3 (.tuple (a::b::c::d::l).toArray)=some d:=rfl
abbrev zIt(l:List (List Int)):List Value:=l.map zEm
theorem zhI:m.all part=(m.secs part).flatten:=by
 unfold Mp.all Mp.upto Mp.secs
 rw[List.flatMap_def]
abbrev Row.want(r:Row):Nat:=if r.bodies=[] then 1 else 2
theorem zzz{vb vo:Value}{Qx:LX}{Qr:LN}(hs:S64 ss)(hb:∀ s ∈ ss,By s)(hl:ss.length≤100000)(hv:RdB B vb ss.flatten)(hsm:Smv B vb)
  (hO:St H (B++zFa vo [])) (ho:Own 1 vo 0 [])
  (hk:∀ H' vo',St H' (B++zFa vo' (zIt (zTa ss).bodies))→Own 1 vo' (zTa ss).bodies.length (zIt (zTa ss).bodies)→Qr [vo',zgb .u64 (zTa ss).first,zgb .u64 (zTa ss).last] H') :
  zbb P true 64 zZg 112 [vb,vo,.int .u64 0,.int .u64 0] H Qx Qr:=by
 refine zsm (fun k l' H'=>∃ (tt:List (List Int)) (out:Row) (vc vo:Value),tt.length≤k∧l'=[vc,vo,zgb .u64 out.first,zgb .u64 out.last]∧S64 tt∧(∀ s ∈ tt,By s)∧RdB B vc tt.flatten∧Smv B vc∧out.bodies.length+tt.length≤100000∧out.first < 2 ^ 64∧out.last < 2 ^ 64∧St H' (B++zFa vo (zIt out.bodies))∧Own 1 vo out.bodies.length (zIt out.bodies)∧goS out.want tt out=zTa ss) _ _ ?_ ss.length _ _ ⟨ss,zlt,vb,vo,Nat.le_refl _,rfl,hs,hb,hv,hsm,by simpa [zlt] using hl,by decide,by decide,hO,ho,rfl⟩
 clear hO ho hv hsm hs hb
 rintro k l' H ⟨tt,out,vc,vo,hkl,rfl,hs,hb,hv,hsm,hln,hf,hla,hO,ho,hg⟩
 unfold zek
 try simp only[zja,zka]
 rw[zuC] at hg
 obtain⟨hsq,hkd⟩:=zTw hb
 have hmany:=ztk (ss:=tt)
 refine zBD hO hv.app hsm.app hs hb (by omega) ?_
 clear hO
 intro H v6 c6 hO h6
 generalize zQd tt=f at *
 refine zaa x0 ?_
 refine zaa x1 ?_
 refine zaa x2 ?_
 refine zaa x3 ?_
 have stop:zld out.want f out→∀ H',St H' ((B++zFa vo (zIt out.bodies))++zFa v6 c6)→Qr [vo,zgb .u64 out.first,zgb .u64 out.last] H':=fun h H' hO'=>by
  rw[if_pos h] at hg
  rw[← hg] at hk
  exact hk H' vo hO'.left ho
 refine zaa zYa ?_
 refine zia (fun h=>?_) (fun h=>?_)
 ·exact stop (.inl (by omega)) _ hO
 have hm0:f.many≠0:=by omega
 have hml:=hmany hm0
 refine zxa (fun l' H'=>l'=[vc,vo,zgb .u64 (zcf out.want f out).first,zgb .u64 f.seq,v6,int ((64 * f.many:Nat):Int)]∧H'=H∧¬ zld out.want f out) ?_ ?_
 ·refine zAa ho.lenSl ?_
  refine zaa zYa ?_
  refine zia (fun h2=>?_) (fun h2=>?_)
  ·have hbn:out.bodies=[]:=List.length_eq_zero_iff.1 (by omega)
   have hw1:out.want=1:=if_pos hbn
   refine zaa zJa ?_
   refine zia (fun h3=>?_) (fun h3=>?_)
   ·exact stop (.inr (.inl (by rw[hw1]; omega))) _ hO
   ·refine⟨?_,rfl,?_⟩
    ·rw[hw1]; rfl
    ·rw[hw1]
     rintro (h4|h4|⟨h4,_⟩)
     ·exact hm0 h4
     ·omega
     ·omega
  ·have hbn:out.bodies≠[]:=fun h3=>h2 (by rw[h3]; rfl)
   have hw2:out.want=2:=if_neg hbn
   refine zxa (fun l' H'=>l'=[vc,vo,zgb .u64 out.first,zgb .u64 out.last,zgb .u64 f.seq,v6,int ((64 * f.many:Nat):Int),.bool (decide (f.kind≠2∨f.seq=0∨f.seq - 1≠out.last))]∧H'=H) ?_ ?_
   ·refine zaa zJa ?_
    refine zia (fun h3=>?_) (fun h3=>?_)
    ·refine zaa (zxb h3) ?_
     refine zaa zQb ?_
     rw[decide_eq_true (.inl (by omega))]
     exact⟨rfl,rfl⟩
    ·refine zaa zYa ?_
     refine zaa (zEb h3) ?_
     refine zia (fun h4=>?_) (fun h4=>?_)
     ·refine zaa (zxb h4) ?_
      rw[decide_eq_true (.inr (.inl (by omega)))]
      exact⟨rfl,rfl⟩
     ·refine zaa (zqv (b:=1) (by omega) hsq) ?_
      refine zaa zJa ?_
      refine zaa (zEb h4) ?_
      rw[decide_eq_decide.2 (show ((f.seq - 1:Nat):Int)≠(out.last:Int)↔f.kind≠2∨f.seq=0∨f.seq - 1≠out.last by omega)]
      exact⟨rfl,rfl⟩
   rintro l' H' ⟨rfl,rfl⟩
   try simp only[zja,zka]
   refine zia (fun h3=>?_) (fun h3=>?_)
   ·refine stop ?_ _ hO
    rw[hw2]
    rcases h3 with h3|h3|h3
    ·exact .inr (.inl h3)
    ·exact .inr (.inr ⟨rfl,.inl h3⟩)
    ·exact .inr (.inr ⟨rfl,.inr h3⟩)
   ·refine⟨?_,by first|rfl|trivial,?_⟩
    ·rw[hw2]; rfl
    ·rw[hw2]
     rintro (h4|h4|⟨_,h4|h4⟩)
     ·exact hm0 h4
     ·exact h3 (.inl h4)
     ·exact h3 (.inr (.inl h4))
     ·exact h3 (.inr (.inr h4))
 rintro l' H' ⟨rfl,rfl,hns⟩
 try simp only[zja,zka]
 rw[if_neg hns] at hg
 refine zAa (h6.rd.app'.str hO) ?_
 have hO2:=hO.left
 clear hO stop
 refine zEa hO2 (zAN _ _) ?_
 clear hO2
 intro q H hO
 refine zOc hO ho rfl (by omega) rfl (by omega) (by omega) ?_
 clear hO ho
 intro vo' H hO ho
 obtain⟨v7,e7,i7⟩:=zVn (n:=64 * f.many) hv (by rw[zrq hs]; omega)
 refine zaa e7 ?_
 have r7:=i7 _ hv
 rw[zkB hs] at r7
 have ebd:zIt out.bodies++[zEm f.body]=zIt (zcf out.want f out).bodies:=by
  show _=(out.bodies++[f.body]).map zEm
  rw[List.map_append]; rfl
 rw[ebd] at hO ho
 have hnl:(zcf out.want f out).bodies.length=out.bodies.length+1:=by show (out.bodies++[f.body]).length=_; simp
 have hnw:(zcf out.want f out).want=2:=if_neg (by show out.bodies++[f.body]≠[]; simp)
 refine⟨tt.length - f.many,by omega,tt.drop f.many,zcf out.want f out,v7,vo',by rw[List.length_drop]; exact Nat.le_refl _,rfl,fun s hx=>hs s (List.mem_of_mem_drop hx),fun s hx=>hb s (List.mem_of_mem_drop hx),r7,Smv.slice hsm e7,by rw[hnl,List.length_drop]; omega,?_,hsq,hO,by rw[hnl]; exact ho,by rw[hnw]; exact hg⟩
 show (if out.want=1 then f.seq else out.first) < 2 ^ 64
 split
 ·exact hsq
 ·exact hf
theorem zfo(ok:m.Ok)(hsm:m.Sm 1000000)(hb:∀ s ∈ m.secs part,By s)(hM:RMok M m)(hO:St H (Γ++RM M m))
  (hk:∀ H' vo,St H' ((Γ++zFa vo (zIt (zTa (m.secs part)).bodies))++RM M m)→Own 1 vo (zTa (m.secs part)).bodies.length (zIt (zTa (m.secs part)).bodies)→K (.tuple [vo,zgb .u64 (zTa (m.secs part)).first,zgb .u64 (zTa (m.secs part)).last].toArray) H') :
  wCall P zXd [ptr M.pm 0,int part] H K:=by
 apply zEs; unfold zKp
 refine zfp ok hsm hM hO ?_
 clear hO
 intro H vb cb hO hvb
 rw[zhI] at hvb
 refine zEa hO (zzN _) ?_
 clear hO
 intro q H hO
 have hsz:=Mp.size_le ok (part:=part)
 refine zzz (B:=(Γ++RM M m)++zFa vb cb) (vo:=sl q 0 0 3) (zFF ok) hb (by rw[zaj]; omega) hvb.rd.app' (Smv.own hvb) hO (.inr ⟨q,.inr rfl,rfl⟩) ?_
 clear hO
 intro H vo hO ho
 try simp only[zja,zka]
 refine hk H vo ?_ ho
 have h3:St H ((Γ++RM M m)++zFa vo (zIt (zTa (m.secs part)).bodies)):=St.mid hO
 exact h3.rot
end J
set_option maxRecDepth 100000
namespace J
open Go Go.Ab
variable{H:Heap}{Γ Γ0 Γ2 Δ G B:List (Nat × Blk)}{K:VH}{v w x:Value}{xs ys bs body:List Int}{j p qj:Nat}{e:Int}{ss tt:List (List Int)}{m:Mp}{part pos:Int}{M:Rm}{t:Jn}
def jrv(pm:Nat)(t:Jn):List Value:=[ptr pm 0,int t.a,int t.b,int t.now,int t.pos,zgb .u64 t.last,.bool t.ready]
abbrev QB(qj pm:Nat)(t:Jn):List (Nat × Blk):=[(qj,⟨jrv pm t,true⟩)]
theorem zmx{pm:Nat}{i:Int}(h:i=0∨i=1):(jrv pm t)[1+i.toNat * 1]?=some (int (t.bank i)):=by
 rcases h with rfl|rfl <;> rfl
theorem zBN(pm:Nat)(a b:Int)(l:Nat):(zDa P 106).f [(0,ptr pm 0),(1,agg [int a,int b]),(2,.int .i64 1),(4,zgb .u64 l)]=some (agg (jrv pm ⟨a,b,1,l,0,false⟩)):=by kernel_rfl
theorem zoB{a b:Int}(ok:m.Ok)(hsm:m.Sm 1000000)(ha:∀ s ∈ m.secs a,By s)(hb:∀ s ∈ m.secs b,By s)(hM:RMok M m)(hO:St H (Γ++RM M m))
  (hk:∀ H' Δ vb qj,St H' ((((Γ++Δ)++zFa vb (zIt (zlc m a b).bodies))++QB qj M.pm (zxk m a b))++RM M m)→Own 1 vb (zlc m a b).bodies.length (zIt (zlc m a b).bodies)→K (.tuple [ptr qj 0,vb].toArray) H') :
  wCall P zUj [ptr M.pm 0,int a,int b] H K:=by
 apply zsw; unfold zXu
 refine zfo ok hsm ha hM hO ?_
 clear hO
 intro H vx hO ox
 refine zaa x0 ?_
 refine zaa x1 ?_
 refine zaa x2 ?_
 refine zfo ok hsm hb hM hO ?_
 clear hO
 intro H vy hO oy
 refine zaa x0 ?_
 refine zaa x1 ?_
 refine zaa x2 ?_
 unfold zxk zlc at hk
 generalize zTa (m.secs a)=X at *
 generalize zTa (m.secs b)=Y at *
 refine zaa (zmL _ _) ?_
 refine zaa (zBN _ _ _ _) ?_
 refine zCa hO ?_
 clear hO
 intro qj H hO
 replace hO:St H ((((Γ++zFa vx (zIt X.bodies))++zFa vy (zIt Y.bodies))++RM M m)++QB qj M.pm ⟨a,b,1,Y.last,0,false⟩):=hO
 replace hO:=hO.rot
 refine zxa (fun l' H'=>l'=[vx,zgb .u64 X.last,vy,ptr qj 0,.bool (decide (zwk X Y))]∧H'=H) ?_ ?_
 ·refine zAa oy.lenSl ?_
  refine zaa zYa ?_
  refine zia (fun h=>?_) (fun h=>?_)
  ·refine zAa ox.lenSl ?_
   refine zaa zZb ?_
   refine zaa (zxb h) ?_
   refine zia (fun h2=>?_) (fun h2=>?_)
   ·refine zaa (zxb h2) ?_
    rw[decide_eq_true (show zwk X Y from⟨by omega,.inl (by omega)⟩)]
    exact⟨rfl,rfl⟩
   ·refine zAa ox.lenSl ?_
    refine zaa zZb ?_
    refine zrp h2 ?_
    refine zaa (zEb h2) ?_
    refine zaa (zEb h2) ?_
    rw[decide_eq_false (show ¬ zwk X Y from fun h3=>h2 (by have:=h3.1; omega))]
    exact⟨rfl,rfl⟩
  ·refine zaa (zEb h) ?_
   refine zAa ox.lenSl ?_
   refine zaa zZb ?_
   refine zia (fun h2=>?_) (fun h2=>?_)
   ·refine zaa (zZb (k:=.u64)) ?_
    refine zaa (zxb h2) ?_
    refine zaa zRa ?_
    rw[decide_eq_decide.2 (show (Y.first:Int) < (X.first:Int)↔zwk X Y from by unfold zwk; omega)]
    exact⟨rfl,rfl⟩
   ·refine zaa (zEb h2) ?_
    refine zaa zRa ?_
    rw[decide_eq_false (show ¬ zwk X Y from fun h3=>h2 (by have:=h3.1; omega))]
    exact⟨rfl,rfl⟩
 rintro l' H' ⟨rfl,rfl⟩
 try simp only[zja,zka]
 refine zia (fun h=>?_) (fun h=>?_)
 ·rw[if_pos h,if_pos h] at hk
  refine zaa zga ?_
  refine zaa zfa ?_
  refine zua hO (_+0) (zwa (zqa rfl)) rfl (show 3 < 7 by omega) rfl ?_
  clear hO
  intro H hO
  rw[List.set_append_left _ _ (by simp),Go.Ab.set_r] at hO
  refine zaa zga ?_
  refine zaa zfa ?_
  refine zua hO (_+0) (zwa (zqa rfl)) rfl (show 5 < 7 by omega) rfl ?_
  clear hO
  intro H hO
  rw[List.set_append_left _ _ (by simp),Go.Ab.set_r] at hO
  replace hO:St H ((((Γ++zFa vx (zIt X.bodies))++zFa vy (zIt Y.bodies))++QB qj M.pm ⟨a,b,0,X.last,0,false⟩)++RM M m):=hO
  exact hk H (zFa vy (zIt Y.bodies)) vx qj (hO.perm (by classical exact List.perm_iff_count.2 fun _=>by simp only[List.count_append,List.count_nil,List.set_cons_zero]; omega)) ox
 ·rw[if_neg h,if_neg h] at hk
  exact hk H' (zFa vx (zIt X.bodies)) vy qj hO oy
theorem zDt(ok:m.Ok)(jok:t.Ok)(hb:m.has t.a∧m.has t.b)(hO:St H ((Γ++QB qj M.pm t)++RM M m))(hk:K (int (t.left m)) H):wCall P zqh [ptr qj 0] H K:=by
 apply zpw; unfold zUu
 refine zaa zga ?_
 refine zaa zfa ?_
 refine zha hO (Γ.length+0) (zwa (zqa rfl)) (v:=.bool t.ready) rfl ?_
 refine zaa zoc ?_
 unfold Jn.left at hk
 have hp:=jok.p
 have hsz:=size_le ok (part:=t.bank t.now)
 refine zKb (fun h=>?_) (fun h=>?_)
 ·rw[if_pos (by simpa using h)] at hk
  exact hk
 ·rw[if_neg (by simp at h; simp[h])] at hk
  have hbk:m.has (t.bank t.now):=by
   unfold Jn.bank
   split
   ·exact hb.1
   ·exact hb.2
  have hszr:m.size (t.bank t.now)=(m.span (t.bank t.now)).2:=by unfold Mp.size; rw[if_pos hbk]
  refine zaa zga ?_
  refine zaa zfa ?_
  refine zha hO (Γ.length+0) (zwa (zqa rfl)) (v:=ptr M.pm 0) rfl ?_
  refine zaa zga ?_
  refine zaa zfa ?_
  refine zha hO ((Γ++QB qj M.pm t).length+0) (zqa rfl) (v:=sl M.ps 0 m.spans.length 3) rfl ?_
  refine zaa zga ?_
  refine zaa zfa ?_
  refine zha hO (Γ.length+0) (zwa (zqa rfl)) (v:=int t.now) rfl ?_
  refine zaa zga ?_
  refine zaa zfa ?_
  refine zaa (zkb (by have:=jok.n; omega) (by have:=jok.n; omega)) ?_
  refine zha hO (Γ.length+0) (zwa (zqa rfl)) (by rw[Nat.zero_add]; exact zmx jok.n) ?_
  refine zaa (zHa hbk.1 hbk.2) ?_
  refine zha hO ((Γ++QB qj M.pm t).length+1) (zqa rfl) (v:=int (m.span (t.bank t.now)).2) (by rw[Nat.zero_add,Nat.mul_one]; exact zjB hbk) ?_
  rw[← hszr]
  refine zaa zga ?_
  refine zaa zfa ?_
  refine zha hO (Γ.length+0) (zwa (zqa rfl)) (v:=int t.pos) rfl ?_
  refine zaa (zce (by omega) (by omega)) ?_
  exact hk
theorem zpB{n:Int}(hb:m.has t.a∧m.has t.b)(hO:St H ((Γ++QB qj M.pm t)++RM M m))(hk:K (.bool (decide (t.fits m n))) H):wCall P zVj [ptr qj 0,int n] H K:=by
 apply zxw; unfold zcv
 refine zDm ?_
 have ea:m.size t.a=(m.span t.a).2:=by unfold Mp.size; rw[if_pos hb.1]
 have eb:m.size t.b=(m.span t.b).2:=by unfold Mp.size; rw[if_pos hb.2]
 refine zaa zZb ?_
 refine zia (fun h=>?_) (fun h=>?_)
 ·refine zaa zga ?_
  refine zaa zfa ?_
  refine zha hO (Γ.length+0) (zwa (zqa rfl)) (v:=ptr M.pm 0) rfl ?_
  refine zaa zga ?_
  refine zaa zfa ?_
  refine zha hO ((Γ++QB qj M.pm t).length+0) (zqa rfl) (v:=sl M.ps 0 m.spans.length 3) rfl ?_
  refine zaa zga ?_
  refine zaa zfa ?_
  refine zaa (zkb (by omega) (by omega)) ?_
  refine zha hO (Γ.length+0) (zwa (zqa rfl)) (v:=int t.a) rfl ?_
  refine zaa (zHa hb.1.1 hb.1.2) ?_
  refine zha hO ((Γ++QB qj M.pm t).length+1) (zqa rfl) (v:=int (m.span t.a).2) (by rw[Nat.zero_add,Nat.mul_one]; exact zjB hb.1) ?_
  rw[← ea]
  refine zaa zcw ?_
  refine zaa (zxb h) ?_
  refine zia (fun h2=>?_) (fun h2=>?_)
  ·refine zaa zga ?_
   refine zaa zfa ?_
   refine zha hO (Γ.length+0) (zwa (zqa rfl)) (v:=ptr M.pm 0) rfl ?_
   refine zaa zga ?_
   refine zaa zfa ?_
   refine zha hO ((Γ++QB qj M.pm t).length+0) (zqa rfl) (v:=sl M.ps 0 m.spans.length 3) rfl ?_
   refine zaa zga ?_
   refine zaa zfa ?_
   refine zaa (zkb (by omega) (by omega)) ?_
   refine zha hO (Γ.length+0) (zwa (zqa rfl)) (v:=int t.b) rfl ?_
   refine zaa (zHa hb.2.1 hb.2.2) ?_
   refine zha hO ((Γ++QB qj M.pm t).length+1) (zqa rfl) (v:=int (m.span t.b).2) (by rw[Nat.zero_add,Nat.mul_one]; exact zjB hb.2) ?_
   rw[← eb]
   refine zaa zcw ?_
   refine zaa (zxb h2) ?_
   rw[decide_eq_decide.2 (show ((zOb n:Nat):Int)≤((m.size t.b:Nat):Int)↔t.fits m n from by unfold Jn.fits; omega)]
   exact hk
  ·refine zaa (zEb h2) ?_
   rw[decide_eq_false (show ¬ t.fits m n from fun h3=>h2 (by have:=h3.2.1; omega))] at hk
   exact hk
 ·refine zaa (zEb h) ?_
  refine zaa zRa ?_
  rw[decide_eq_false (show ¬ t.fits m n from fun h3=>h (by have:=h3.1; omega))] at hk
  exact hk
theorem zqG(hb:By body):zje (zEm body) H=some (sl H.next 0 body.length 2,H.push (by8 body)):=by
 have e1:((body.map fun n=>UInt8.ofNat n.toNat).map zEh)=by8 body:=by
  rw[List.map_map]
  refine List.map_congr_left fun x hx=>?_
  have:=hb x hx
  show zEh (UInt8.ofNat x.toNat)=_
  unfold zEh
  rw[UInt8.toNat_ofNat',Nat.mod_eq_of_lt (by omega),Int.toNat_of_nonneg this.1]
 have e2:zgf (body.map fun n=>UInt8.ofNat n.toNat)=body.length:=by rw[zNa,List.length_map]
 show zCb ((body.map fun n=>UInt8.ofNat n.toNat).map zEh) (zgf (body.map fun n=>UInt8.ofNat n.toNat)) 2 H=_
 rw[e1,e2]; rfl
theorem zrG:zDE (zEm body) H=some (int body.length,H):=by
 show some (Value.int .i64 (Int.ofNat (zgf (body.map fun n=>UInt8.ofNat n.toNat))),H)=_
 rw[zNa,List.length_map]; rfl
end J
set_option maxRecDepth 100000
namespace J
open Go Go.Ab
variable{H:Heap}{Γ Γ0 Γ2 Δ G B:List (Nat × Blk)}{K:VH}{v w x:Value}{xs ys bs body:List Int}{j p qj:Nat}{e:Int}{ss tt:List (List Int)}{m:Mp}{part pos:Int}{M:Rm}{t:Jn}
theorem zTI{pm:Nat}{t':Jn}{R:List (Nat × Blk)}{c:List Value}(h:St H (((Γ++QB qj pm t)++R).set (Γ.length+0) (qj,⟨c,true⟩)))(hc:c=jrv pm t'):St H ((Γ++QB qj pm t')++R):=by
 rw[List.set_append_left _ _ (by simp),Go.Ab.set_r,hc] at h
 exact h
set_option maxHeartbeats 2000000 in
theorem zsq{bank a:Int}{N kind:Nat}(ok:m.Ok)(hsm:m.Sm N)(hN:N+1000≤1000000)(ha:0≤a∧a≤1000000)(hk8:kind < 256)(hl:t.last+1 < 2 ^ 64)(hb:By body)(hM:RMok M m)(hO:St H ((Γ++QB qj M.pm t)++RM M m))
  (hk:∀ H' M' (n':Nat),M.Eq M'→((zCc bank a (zih kind (t.last+1) body) m).2=0→n'=(zih kind (t.last+1) body).length)→St H' ((Γ++QB qj M'.pm t)++RM M' (zCc bank a (zih kind (t.last+1) body) m).1)→RMok M' (zCc bank a (zih kind (t.last+1) body) m).1→K (.tuple [int n',int (zCc bank a (zih kind (t.last+1) body) m).2].toArray) H') :
  wCall P zLe [ptr qj 0,int bank,int a,zgb .u8 kind,zEm body] H K:=by
 apply zau; unfold zHs
 refine zaa zga ?_
 refine zaa zfa ?_
 refine zha hO (Γ.length+0) (zwa (zqa rfl)) (v:=zgb .u64 t.last) rfl ?_
 refine zaa (v:=zgb .u64 (t.last+1)) (zSA (n:=t.last) hl) ?_
 refine zEa hO (zqG hb) ?_
 clear hO
 intro q H hO
 refine zAD (body:=body) hO (.inr ⟨q,0,2,rfl,.inl rfl,.inr ⟨_+0,_,zqa rfl,by rw[List.drop_zero]; exact List.take_of_length_le (by rw[zsa]; omega)⟩⟩) hb hk8 hl ?_
 have hpl:=zCg (body:=body) (kind:=kind) (seq:=t.last+1)
 have hps:=zZi (body:=body) (kind:=kind) (seq:=t.last+1)
 generalize zih kind (t.last+1) body=ss at *
 clear hO
 intro H vl hO hvl
 have hO2:St H (((Γ++zFa vl (zhf ss))++QB qj M.pm t)++RM M m):=(St.left (Δ:=[(q,(⟨by8 body,true⟩:Blk))]) (hO.perm (by classical exact List.perm_iff_count.2 fun _=>by simp only[List.count_append,List.count_nil,List.set_cons_zero]; omega)))
 clear hO
 refine zAa hvl.lenSl ?_
 refine zyn (fun k l' H'=>∃ (y:Nat) (M2:Rm) (m2:Mp),y≤ss.length∧k=ss.length - y∧l'=[ptr qj 0,int bank,int a,int 0,int 0,vl,vl,int ss.length,int y]∧M.Eq M2∧m2.Ok∧m2.Sm (N+y)∧St H' (((Γ++zFa vl (zhf ss))++QB qj M.pm t)++RM M2 m2)∧RMok M2 m2∧zCc bank a ss m=zCc bank (a+y) (ss.drop y) m2) _ _ ?_ ss.length _ _ ⟨0,M,m,by omega,rfl,rfl,Rm.Eq.rfl',ok,hsm,hO2,hM,by simp⟩
 clear hO2 hM
 rintro k l' H ⟨y,M2,m2,hy,rfl,rfl,he,ok2,hs2,hO,hM2,hw⟩
 unfold zKl
 try simp only[zja,zka]
 have fin:∀ {H:Heap} {Δ1 Δ2:List (Nat × Blk)},St H (((Γ++zFa vl (zhf ss))++Δ1)++Δ2)→St H ((Γ++Δ1)++Δ2):=fun h=>h.sub (List.Sublist.append (List.Sublist.append (List.sublist_append_left _ _) (List.Sublist.refl _)) (List.Sublist.refl _))
 refine zaa zKa ?_
 refine zia (fun h1=>?_) (fun h1=>?_)
 ·have hyl:y < ss.length:=by omega
  have hsl:=hps _ (List.getElem_mem hyl)
  rw[List.drop_eq_getElem_cons hyl,zie] at hw
  refine zAF hO hps (RdS.own hvl).app'.app.app hyl ?_
  rw[zcS]
  refine zCa hO ?_
  clear hO
  intro p10 H hO
  refine zoa hO (_+0) (zqa rfl) (by rw[zsa]; rfl) (by rw[zsa]; exact hsl) (zsb _) ?_
  clear hO
  intro H hO
  replace hO:=hO.set_r
  refine zaa zga ?_
  refine zaa zfa ?_
  refine zha hO ((Γ++zFa vl (zhf ss)).length+0) (zwa (zwa (zqa rfl))) (v:=ptr M.pm 0) rfl ?_
  refine zaa (zyb (by omega) (by omega)) ?_
  refine zma hO (_+0) (zqa rfl) (by rw[zsa]; exact hsl) (by omega) ?_
  rw[← he.m]
  refine zwu ok2 hsl (hs2.mono (by omega)) hM2 hO.left ?_
  clear hO
  intro H M3 hO hm3 hd3 hM3
  have he3:M2.Eq M3:=⟨hm3,hd3⟩
  refine zaa zJa ?_
  refine zia (fun h3=>?_) (fun h3=>?_)
  ·rw[if_pos h3] at hw
   try simp only[zja,zka]
   rw[hw] at hk
   refine hk _ M3 0 (he.trans he3) (fun h4=>absurd h4 h3) ?_ hM3
   rw[hm3,he.m]
   exact fin hO
  ·rw[if_neg h3] at hw
   repeat refine oi ?_
   refine⟨_,by omega,y+1,M3,_,by omega,rfl,rfl,he.trans he3,Mp.program_ok ok2 hsl,(Mp.program_sm hs2).mono (by omega),?_,hM3,?_⟩
   ·rw[he.m]; exact hO
   ·rw[hw,Int.add_assoc]; rfl
 ·have ey:y=ss.length:=by omega
  subst ey
  rw[List.drop_length,zsv] at hw
  refine zeb rfl ?_
  try simp only[zja,zka]
  refine zAa hvl.lenSl ?_
  refine zaa zga ?_
  refine zaa zfa ?_
  refine zha hO ((Γ++zFa vl (zhf ss)).length+0) (zwa (zqa rfl)) (v:=ptr M.pm 0) rfl ?_
  rw[← he.m]
  refine zaa zga ?_
  refine zaa zfa ?_
  refine zha hO (_+0) (zqa rfl) (v:=ptr M2.r.pd 0) rfl ?_
  refine zzt ok2.d (Nat.le_trans hs2.1 (by omega)) hM2.r (RM.toD hO) ?_
  clear hO
  intro H R' hO hp hR
  rw[hw] at hk
  have hO3:=RM.dev (M:=M2) hp hO
  refine hk _ { M2 with r:=R' } ss.length (he.trans ⟨rfl,hp⟩) (fun _=>rfl) ?_ ⟨hR,hM2.o,hM2.s⟩
  have h4:=fin hO3
  rw[← he.m] at h4
  exact h4
theorem ziI(ok:m.Ok)(hs:m.Sm 1000000)(hM:RMok M m)(hO:St H (Γ++RM M m))
  (hk:∀ H' M',M.Eq M'→St H' (Γ++RM M' m.sync.1)→RMok M' m.sync.1→K (int m.sync.2) H'):wCall P zne [ptr M.r.pd 0] H K:=by
 refine zzt ok.d hs.1 hM.r (RM.toD hO) ?_
 intro H R' hO hp hR
 exact hk _ { M with r:=R' } ⟨rfl,hp⟩ (RM.dev hp hO) ⟨hR,hM.o,hM.s⟩
set_option maxHeartbeats 4000000 in
theorem zAz{N:Nat}(ok:m.Ok)(jok:t.Ok)(hbk:m.has t.a∧m.has t.b)(hsm:m.Sm N)(hN:N+10000≤1000000)(hb:By body)(hM:RMok M m)(hO:St H ((Γ++QB qj M.pm t)++RM M m))
  (hk:∀ H' M',M.Eq M'→St H' ((Γ++QB qj M'.pm (zTc t m body).1)++RM M' (zTc t m body).2.1)→RMok M' (zTc t m body).2.1→K (int (zTc t m body).2.2) H'):wCall P zHi [ptr qj 0,zEm body] H K:=by
 apply zUt; unfold zzs
 unfold zTc at hk
 refine zxa (fun l' H'=>l'=[ptr qj 0,zEm body]∧H'=H∧t.room m body.length) ?_ ?_
 ·refine zAa zrG ?_
  refine zpB hbk hO ?_
  refine zaa zoc ?_
  by_cases h:t.fits m body.length
  ·rw[decide_eq_true h]
   refine zUd rfl ?_
   refine zaa zga ?_
   refine zaa zfa ?_
   refine zha hO (Γ.length+0) (zwa (zqa rfl)) (v:=zgb .u64 t.last) rfl ?_
   refine zaa (zNg (k:=.u64)) ?_
   refine zaa zRa ?_
   refine zia (fun h2=>?_) (fun h2=>?_)
   ·rw[if_pos (show ¬ t.room m body.length from fun h3=>h3 (.inr (by omega)))] at hk
    exact hk _ M Rm.Eq.rfl' hO hM
   ·exact⟨rfl,rfl,fun h3=>by rcases h3 with h3|h3; exact h3 h; omega⟩
  ·rw[decide_eq_false h]
   refine zxe rfl ?_
   refine zaa zQb ?_
   refine zxe rfl ?_
   rw[if_pos (show ¬ t.room m body.length from fun h3=>h3 (.inl h))] at hk
   exact hk _ M Rm.Eq.rfl' hO hM
 rintro l' H' ⟨rfl,rfl,hr⟩
 rw[if_neg (fun h=>h hr)] at hk
 unfold Jn.room at hr
 try simp only[zja,zka]
 refine zaa zga ?_
 refine zaa zfa ?_
 refine zua hO (Γ.length+0) (zwa (zqa rfl)) rfl (show 6 < 7 by omega) rfl ?_
 clear hO
 intro H hO
 replace hO:St H ((Γ++QB qj M.pm { t with ready:=false })++RM M m):=zTI hO rfl
 refine zaa zga ?_
 refine zaa zfa ?_
 refine zha hO (Γ.length+0) (zwa (zqa rfl)) (v:=int t.now) rfl ?_
 have hn:=jok.n
 refine zaa (v:=int (1 - t.now)) (zce (by omega) (by omega)) ?_
 refine zaa zga ?_
 refine zaa zfa ?_
 refine zaa (zkb (by omega) (by omega)) ?_
 refine zha hO (Γ.length+0) (zwa (zqa rfl)) (v:=int (t.bank (1 - t.now))) (by rw[Nat.zero_add]; exact zmx (t:={ t with ready:=false }) (by omega)) ?_
 refine zaa zga ?_
 refine zaa zfa ?_
 refine zha hO (Γ.length+0) (zwa (zqa rfl)) (v:=ptr M.pm 0) rfl ?_
 refine zlB (N:=N) ok hsm (by omega) hM hO ?_
 clear hO
 intro H M1 hO he1 hM1
 simp only at hk
 have w1:=zRA ok hsm (part:=t.bank (1 - t.now))
 have w2:=zZo ok (part:=t.bank (1 - t.now))
 generalize m.wipe (t.bank (1 - t.now))=W at *
 rw[← he1.m] at hO
 refine zxa (fun l' H'=>∃ (M2:Rm) (Y:Mp × Int),l'=[ptr qj 0,zEm body,int (t.bank (1 - t.now)),int Y.2]∧M1.Eq M2∧St H' ((Γ++QB qj M2.pm { t with ready:=false })++RM M2 Y.1)∧RMok M2 Y.1∧(W.2≠0∧Y=W∨W.2=0∧Y=W.1.sync)) ?_ ?_
 ·refine zaa zYa ?_
  refine zia (fun h=>?_) (fun h=>?_)
  ·refine zaa zga ?_
   refine zaa zfa ?_
   refine zha hO (Γ.length+0) (zwa (zqa rfl)) (v:=ptr M1.pm 0) rfl ?_
   refine zaa zga ?_
   refine zaa zfa ?_
   refine zha hO (_+0) (zqa rfl) (v:=ptr M1.r.pd 0) rfl ?_
   refine ziI w2 (w1.mono (by omega)) hM1 hO ?_
   clear hO
   intro H M2 he2 hO hM2
   exact⟨M2,_,rfl,he2,by rw[he2.m]; exact hO,hM2,.inr ⟨h,rfl⟩⟩
  ·exact⟨M1,W,rfl,Rm.Eq.rfl',hO,hM1,.inl ⟨h,rfl⟩⟩
 clear hO hM1
 rintro l' H ⟨M2,Y,rfl,he2,hO,hM2,hc⟩
 try simp only[zja,zka]
 refine zaa zJa ?_
 refine zia (fun h=>?_) (fun h=>?_)
 ·rcases hc with⟨h2,rfl⟩|⟨h2,rfl⟩
  ·rw[if_pos h2] at hk
   exact hk _ M2 (he1.trans he2) hO hM2
  ·rw[if_neg (by rw[h2]; simp),if_pos h] at hk
   exact hk _ M2 (he1.trans he2) hO hM2
 rcases hc with⟨h2,rfl⟩|⟨h2,rfl⟩
 ·exact absurd h2 h
 rw[if_neg (by rw[h2]; simp),if_neg h] at hk
 have w3:=Mp.sync_sm w1
 have w4:=Mp.sync_ok w2
 generalize W.1.sync=Y at *
 refine zsq (t:={ t with ready:=false }) (bank:=t.bank (1 - t.now)) (a:=0) (kind:=1) w4 w3 (by omega) (by omega) (by omega) (by show t.last+1 < 2 ^ 64; omega) hb hM2 hO ?_
 clear hO hM2
 intro H M3 n' he3 hn' hO hM3
 have hpl:=zCg (body:=body) (kind:=1) (seq:=t.last+1)
 simp only at hn' hO hM3
 generalize zih 1 (t.last+1) body=l at *
 generalize zCc (t.bank (1 - t.now)) 0 l Y.1=Z at *
 refine zaa zEj ?_
 refine zaa zFj ?_
 refine zaa zYa ?_
 refine zia (fun h3=>?_) (fun h3=>?_)
 rotate_left
 ·rw[if_pos h3] at hk
  exact hk _ M3 ((he1.trans he2).trans he3) hO hM3
 rw[if_neg (fun h4=>h4 h3)] at hk
 have hn':=hn' h3
 subst hn'
 refine zaa zga ?_
 refine zaa zfa ?_
 refine zha hO (Γ.length+0) (zwa (zqa rfl)) (v:=int t.now) rfl ?_
 refine zaa (v:=int (1 - t.now)) (zce (by omega) (by omega)) ?_
 refine zaa zga ?_
 refine zaa zfa ?_
 refine zua hO (Γ.length+0) (zwa (zqa rfl)) rfl (show 3 < 7 by omega) rfl ?_
 clear hO
 intro H hO
 replace hO:St H ((Γ++QB qj M3.pm { t with ready:=false,now:=1 - t.now })++RM M3 Z.1):=zTI hO rfl
 refine zaa zga ?_
 refine zaa zfa ?_
 refine zha hO (Γ.length+0) (zwa (zqa rfl)) (v:=zgb .u64 t.last) rfl ?_
 refine zaa (v:=zgb .u64 (t.last+1)) (zSA (n:=t.last) (by omega)) ?_
 refine zaa zga ?_
 refine zaa zfa ?_
 refine zua hO (Γ.length+0) (zwa (zqa rfl)) rfl (show 5 < 7 by omega) rfl ?_
 clear hO
 intro H hO
 replace hO:St H ((Γ++QB qj M3.pm { t with ready:=false,now:=1 - t.now,last:=t.last+1 })++RM M3 Z.1):=zTI hO rfl
 refine zaa zga ?_
 refine zaa zfa ?_
 refine zua hO (Γ.length+0) (zwa (zqa rfl)) rfl (show 4 < 7 by omega) rfl ?_
 clear hO
 intro H hO
 replace hO:St H ((Γ++QB qj M3.pm { t with ready:=false,now:=1 - t.now,last:=t.last+1,pos:=l.length })++RM M3 Z.1):=zTI hO rfl
 refine zaa zga ?_
 refine zaa zfa ?_
 refine zua hO (Γ.length+0) (zwa (zqa rfl)) rfl (show 6 < 7 by omega) rfl ?_
 clear hO
 intro H hO
 replace hO:St H ((Γ++QB qj M3.pm { t with ready:=true,now:=1 - t.now,last:=t.last+1,pos:=l.length })++RM M3 Z.1):=zTI hO rfl
 have:=hk H M3 ((he1.trans he2).trans he3) hO hM3
 rw[h3]
 exact this
set_option maxHeartbeats 4000000 in
theorem znx{N:Nat}(ok:m.Ok)(jok:t.Ok)(hbk:m.has t.a∧m.has t.b)(hsm:m.Sm N)(hN:N+10000≤1000000)(hb:By body)(hM:RMok M m)(hO:St H ((Γ++QB qj M.pm t)++RM M m))
  (hk:∀ H' M',M.Eq M'→St H' ((Γ++QB qj M'.pm (zmb t m body).1)++RM M' (zmb t m body).2.1)→RMok M' (zmb t m body).2.1→K (int (zmb t m body).2.2) H'):wCall P zKh [ptr qj 0,zEm body] H K:=by
 apply zys; unfold zFp
 unfold zmb at hk
 refine zaa zga ?_
 refine zaa zfa ?_
 refine zha hO (Γ.length+0) (zwa (zqa rfl)) (v:=.bool t.ready) rfl ?_
 refine zaa zoc ?_
 refine zKb (fun h0=>?_) (fun h0=>?_)
 ·rw[if_pos (by simpa using h0)] at hk
  exact hk _ M Rm.Eq.rfl' hO hM
 rw[if_neg (by simp at h0; simp[h0])] at hk
 have jl:=jok.l (by simpa using h0)
 have jp:=jok.p
 refine zAa zrG ?_
 refine zDm ?_
 simp only at hk
 have hsz9:=zLF (body:=body) (kind:=2) (seq:=t.last+1)
 rw[← hsz9]
 have hpl:=zCg (body:=body) (kind:=2) (seq:=t.last+1)
 refine zxa (fun l' H'=>l'=[ptr qj 0,zEm body]∧H'=H∧t.more m (zih 2 (t.last+1) body).length) ?_ ?_
 ·refine zaa zYa ?_
  refine zia (fun h=>?_) (fun h=>?_)
  ·rw[if_pos (show ¬ t.more m (zih 2 (t.last+1) body).length from fun h3=>h3 (.inl (by omega)))] at hk
   refine zaa (zxb h) ?_
   refine zaa zQb ?_
   refine zxe rfl ?_
   exact hk _ M Rm.Eq.rfl' hO hM
  ·refine zDt ok jok hbk hO ?_
   refine zaa zZb ?_
   refine zaa (zEb h) ?_
   refine zia (fun h2=>?_) (fun h2=>?_)
   ·rw[if_pos (show ¬ t.more m (zih 2 (t.last+1) body).length from fun h3=>h3 (.inr (.inl h2)))] at hk
    refine zaa (zxb h2) ?_
    refine zxe rfl ?_
    exact hk _ M Rm.Eq.rfl' hO hM
   ·refine zaa zga ?_
    refine zaa zfa ?_
    refine zha hO (Γ.length+0) (zwa (zqa rfl)) (v:=zgb .u64 t.last) rfl ?_
    refine zaa (zNg (k:=.u64)) ?_
    refine zaa (zEb h2) ?_
    refine zia (fun h3=>?_) (fun h3=>?_)
    ·rw[if_pos (show ¬ t.more m (zih 2 (t.last+1) body).length from fun h4=>h4 (.inr (.inr (by omega))))] at hk
     exact hk _ M Rm.Eq.rfl' hO hM
    ·exact⟨rfl,rfl,fun h4=>by rcases h4 with h4|h4|h4; exact h (by omega); exact h2 h4; exact h3 (by omega)⟩
 rintro l' H' ⟨rfl,rfl,hr⟩
 rw[if_neg (fun h=>h hr)] at hk
 unfold Jn.more at hr
 have hleft:t.left m=m.size (t.bank t.now) - t.pos:=if_neg (by simp at h0; simp[h0])
 have hsz:=size_le ok (part:=t.bank t.now)
 try simp only[zja,zka]
 refine zaa zga ?_
 refine zaa zfa ?_
 refine zha hO (Γ.length+0) (zwa (zqa rfl)) (v:=int t.now) rfl ?_
 refine zaa zga ?_
 refine zaa zfa ?_
 refine zaa (zkb (by have:=jok.n; omega) (by have:=jok.n; omega)) ?_
 refine zha hO (Γ.length+0) (zwa (zqa rfl)) (v:=int (t.bank t.now)) (by rw[Nat.zero_add]; exact zmx jok.n) ?_
 refine zaa zga ?_
 refine zaa zfa ?_
 refine zha hO (Γ.length+0) (zwa (zqa rfl)) (v:=int t.pos) rfl ?_
 refine zsq (t:=t) (bank:=t.bank t.now) (a:=t.pos) (kind:=2) ok hsm (by omega) jp (by omega) (by omega) hb hM hO ?_
 clear hO hM
 intro H M3 n' he3 hn' hO hM3
 generalize zih 2 (t.last+1) body=l at *
 generalize zCc (t.bank t.now) t.pos l m=Z at *
 refine zaa zEj ?_
 refine zaa zFj ?_
 refine zaa zJa ?_
 refine zia (fun h=>?_) (fun h=>?_)
 ·rw[if_pos h] at hk
  refine zaa zga ?_
  refine zaa zfa ?_
  refine zua hO (Γ.length+0) (zwa (zqa rfl)) rfl (show 6 < 7 by omega) rfl ?_
  clear hO
  intro H hO
  replace hO:St H ((Γ++QB qj M3.pm { t with ready:=false })++RM M3 Z.1):=zTI hO rfl
  exact hk _ M3 he3 hO hM3
 rw[if_neg h] at hk
 have hn':=hn' (Decidable.not_not.1 h)
 subst hn'
 refine zaa zga ?_
 refine zaa zfa ?_
 refine zha hO (Γ.length+0) (zwa (zqa rfl)) (v:=zgb .u64 t.last) rfl ?_
 refine zaa (v:=zgb .u64 (t.last+1)) (zSA (n:=t.last) (by omega)) ?_
 refine zaa zga ?_
 refine zaa zfa ?_
 refine zua hO (Γ.length+0) (zwa (zqa rfl)) rfl (show 5 < 7 by omega) rfl ?_
 clear hO
 intro H hO
 replace hO:St H ((Γ++QB qj M3.pm { t with last:=t.last+1 })++RM M3 Z.1):=zTI hO rfl
 refine zaa zga ?_
 refine zaa zfa ?_
 refine zha hO (Γ.length+0) (zwa (zqa rfl)) (v:=int t.pos) rfl ?_
 refine zaa (zyb (by omega) (by omega)) ?_
 refine zaa zga ?_
 refine zaa zfa ?_
 refine zua hO (Γ.length+0) (zwa (zqa rfl)) rfl (show 4 < 7 by omega) rfl ?_
 clear hO
 intro H hO
 replace hO:St H ((Γ++QB qj M3.pm { t with last:=t.last+1,pos:=t.pos+l.length })++RM M3 Z.1):=zTI hO rfl
 exact hk _ M3 he3 hO hM3
end J
set_option maxRecDepth 100000
namespace J
open Go Go.Ab
variable{H:Heap}{Γ Γ0 Γ2 Δ G B:List (Nat × Blk)}{K:VH}{v w x:Value}{xs ys bs body:List Int}{j p qj qs:Nat}{e:Int}{ss tt bb:List (List Int)}{m:Mp}{part pos:Int}{M:Rm}{jn:Jn}{t first:Tb}{l:List Ch}
theorem zpK(qj:Nat)(t:Tb):(zDa P 64).f [(0,ptr qj 0),(1,agg (tbC t))]=some (agg (ptr qj 0::tbC t)):=by kernel_rfl
theorem zqK{t':Tb}{R:List (Nat × Blk)}{c:List Value}(h:St H (((Γ++SB qs qj t)++R).set (Γ.length+0) (qs,⟨c,true⟩)))(hc:c=ptr qj 0::tbC t'):St H ((Γ++SB qs qj t')++R):=by
 rw[List.set_append_left _ _ (by simp),Go.Ab.set_r,hc] at h
 exact h
theorem zGC{q n:Nat}(hn:n=body.length):ArgW (Γ++[(q,(⟨by8 body,true⟩:Blk))]) (sl q 0 n 2) body:=by
 subst hn
 exact .inr ⟨q,_+0,true,rfl,zqa rfl⟩
set_option maxHeartbeats 4000000 in
theorem zjI{G:List (Nat × Blk)}{vb:Value}{jv2:Nat}{wv:Bool}{Qx:LX}{Qr:LN}(hv:(vb=zya∧bb=[])∨∃ p c,vb=sl p 0 bb.length c∧G[jv2]?=some (p,⟨zIt bb,wv⟩))(hb:∀ b ∈ bb,By b)(hl:bb.length≤1000)(hx:∀ b ∈ bb,b.length≤1000000)
  (hO:St H (G++SB qs qj first))
  (hk:∀ H',St H' (G++SB qs qj (zfd bb first))→Qx 0 [.pointer none,ptr qs 0] H'∧Qr [ptr qs 0,ptr qs 0] H') :
  zbb P true 81 zSi 2304 [.pointer none,ptr qs 0,vb,int bb.length,int 0] H Qx Qr:=by
 refine zEo (fun k l' H'=>∃ (y:Nat) (cur:Tb),y≤bb.length∧k=bb.length - y∧l'=[.pointer none,ptr qs 0,vb,int bb.length,int y]∧St H' (G++SB qs qj cur)∧(y=0∧cur=first∨0 < y∧zfd bb first=tGo cur (bb.drop y))) _ _ ?_ bb.length _ _ ⟨0,first,by omega,rfl,rfl,hO,.inl ⟨rfl,rfl⟩⟩
 clear hO
 rintro k l' H ⟨y,cur,hy,rfl,rfl,hO,hc⟩
 unfold zfn
 try simp only[zja,zka]
 refine zaa zKa ?_
 refine zia (fun h=>?_) (fun h=>?_)
 ·have hyl:y < bb.length:=by omega
  have hby:=hb _ (List.getElem_mem hyl)
  have hxl:=hx _ (List.getElem_mem hyl)
  obtain⟨pv,cv,rfl,hj⟩:∃ p c,vb=sl p 0 bb.length c∧G[jv2]?=some (p,⟨zIt bb,wv⟩):=by
   rcases hv with⟨_,rfl⟩|h
   ·simp at hyl
   ·exact h
  refine zaa (zHa (by omega) (by omega)) ?_
  refine zha hO jv2 (zwa hj) (v:=zEm bb[y]) (by
   rw[show 0+((y:Nat):Int).toNat * 1=y by omega]
   simp[hyl]) ?_
  refine zaa zYa ?_
  refine zia (fun h2=>?_) (fun h2=>?_)
  ·have hy0:y=0:=by omega
   subst hy0
   have hcf:cur=first:=by rcases hc with h|h; exact h.2; exact absurd h.1 (by omega)
   rw[hcf] at hO
   clear hc hcf cur
   obtain⟨b,r,rfl⟩:∃ b r,bb=b::r:=by
    match bb,hyl with
    | b::r,_=>exact⟨b,r,rfl⟩
   have hrep:zfd (b::r) first=if (zAd b).2≠0 then first else tGo (zAd b).1 r:=rfl
   refine zEa hO (zqG hby) ?_
   clear hO
   intro q H hO
   refine zar (bs:=b) hO (zGC rfl) hxl hby ?_
   clear hO
   intro H hO
   refine zaa zEj ?_
   refine zaa zFj ?_
   rw[zCG]
   refine zCa hO ?_
   clear hO
   intro p14 H hO
   refine zoa hO (_+0) (zqa rfl) rfl rfl rfl ?_
   clear hO
   intro H hO
   replace hO:=hO.set_r
   refine zaa zJa ?_
   refine zia (fun h3=>?_) (fun h3=>?_)
   ·rw[hrep,if_pos h3] at hk
    exact (hk _ hO.left.left).2
   ·refine zma hO (_+0) (zqa rfl) rfl (by omega) ?_
    refine zaa zga ?_
    refine zaa zfa ?_
    replace hO:St H ((G++SB qs qj first)++([(q,⟨by8 b,true⟩)]++[(p14,⟨tbC (zAd b).1,true⟩)])):=by rw[← List.append_assoc]; exact hO
    refine zfc hO (G.length+0) (zwa (zqa rfl)) rfl (show 0+1+75≤(ptr qj 0::tbC first).length from Nat.le_refl _) rfl ?_
    clear hO
    intro H hO
    replace hO:St H ((G++SB qs qj (zAd b).1)++_):=zqK hO rfl
    repeat refine oi ?_
    refine⟨_,by omega,0+1,(zAd b).1,by omega,rfl,rfl,hO.left,.inr ⟨by omega,?_⟩⟩
    rw[hrep,if_neg h3]; rfl
  ·have hy0:0 < y:=by omega
   have hrep:zfd bb first=tGo cur (bb.drop y):=by rcases hc with h|h; exact absurd h.1 (by omega); exact h.2
   rw[List.drop_eq_getElem_cons hyl,zix,zYF hby] at hrep
   have hgl:=zAC bb[y] hby
   rw[zYF hby] at hgl
   refine zEa hO (zqG hby) ?_
   clear hO
   intro q H hO
   refine zuu (bs:=bb[y]) hO (zGC rfl) hxl hby ?_
   clear hO
   intro H vg hO og
   refine zaa zEj ?_
   refine zaa zFj ?_
   refine zaa zga ?_
   refine zaa zfa ?_
   refine zBa hO (G.length+0) (zwa (zwa (zqa rfl))) (show _=tbC cur from rfl) rfl (by omega) ?_
   refine zvj hO (RdC.own og).app' (by omega) ?_
   clear hO
   intro H hO
   refine zaa zEj ?_
   refine zaa zFj ?_
   rw[zCG]
   refine zCa hO ?_
   clear hO
   intro p18 H hO
   refine zoa hO (_+0) (zqa rfl) rfl rfl rfl ?_
   clear hO
   intro H hO
   replace hO:=hO.set_r
   generalize zWF bb[y]=GR at *
   refine zxa (fun l' H'=>l'=[.pointer none,ptr qs 0,ptr p18 0,sl pv 0 bb.length cv,int bb.length,int y,.bool (decide (GR.2≠0∨(zab cur GR.1).2≠0))]∧H'=H) ?_ ?_
   ·refine zaa zJa ?_
    refine zia (fun h3=>?_) (fun h3=>?_)
    ·refine zaa (zxb h3) ?_
     rw[decide_eq_true (.inl h3)]
     exact⟨rfl,rfl⟩
    ·refine zaa zJa ?_
     refine zaa (zEb h3) ?_
     rw[decide_eq_decide.2 (show (zab cur GR.1).2≠0↔GR.2≠0∨(zab cur GR.1).2≠0 from⟨.inr,fun h=>h.elim (fun h=>absurd h h3) id⟩)]
     exact⟨rfl,rfl⟩
   rintro l' H' ⟨rfl,rfl⟩
   try simp only[zja,zka]
   refine zia (fun h3=>?_) (fun h3=>?_)
   ·have:zfd bb first=cur:=by
     rw[hrep]
     rcases h3 with h3|h3
     ·rw[if_pos h3]
     ·by_cases h4:GR.2≠0
      ·rw[if_pos h4]
      ·rw[if_neg h4,if_pos h3]
    rw[this] at hk
    exact (hk _ hO.left.left.left).2
   ·refine zma hO (_+0) (zqa rfl) rfl (by omega) ?_
    refine zaa zga ?_
    refine zaa zfa ?_
    replace hO:St H' ((G++SB qs qj cur)++([(q,⟨by8 bb[y],true⟩)]++(zFa vg (chs GR.1)++[(p18,⟨tbC (zab cur GR.1).1,true⟩)]))):=by
     rw[← List.append_assoc,← List.append_assoc]; exact hO
    refine zfc hO (G.length+0) (zwa (zqa rfl)) rfl (show 0+1+75≤(ptr qj 0::tbC cur).length from Nat.le_refl _) rfl ?_
    clear hO
    intro H hO
    replace hO:St H ((G++SB qs qj (zab cur GR.1).1)++_):=zqK hO rfl
    repeat refine oi ?_
    refine⟨_,by omega,y+1,(zab cur GR.1).1,by omega,rfl,rfl,hO.left,.inr ⟨by omega,?_⟩⟩
    rw[hrep,if_neg (fun h=>h3 (.inl h)),if_neg (fun h=>h3 (.inr h))]
 ·have ey:y=bb.length:=by omega
  subst ey
  have:zfd bb first=cur:=by
   rcases hc with⟨h1,rfl⟩|⟨_,h2⟩
   ·rw[List.length_eq_zero_iff.1 h1]; rfl
   ·rw[h2,List.drop_length]; rfl
  rw[this] at hk
  exact (hk _ hO).1
theorem ztq(ok:m.Ok)(hsm:m.Sm 1000000)(h0:∀ s ∈ m.secs 0,By s)(h1:∀ s ∈ m.secs 1,By s)(hbb:∀ x ∈ (zlc m 0 1).bodies,By x)(hbl:(zlc m 0 1).bodies.length≤1000)(hbx:∀ x ∈ (zlc m 0 1).bodies,x.length≤1000000)(hM:RMok M m)(hO:St H (Γ++RM M m))
  (hk:∀ H' Δ qs qj,St H' ((((Γ++Δ)++SB qs qj (zfd (zlc m 0 1).bodies first))++QB qj M.pm (zxk m 0 1))++RM M m)→K (ptr qs 0) H'):wCall P zPf [ptr M.pm 0,int 0,int 1,agg (tbC first)] H K:=by
 apply zow; unfold zTu
 refine zCa hO ?_
 clear hO
 intro p7 H hO
 replace hO:St H ((Γ++RM M m)++[(p7,⟨tbC first,true⟩)]):=hO
 replace hO:=hO.rot
 refine zoB ok hsm h0 h1 hM hO ?_
 clear hO
 intro H Δ vb qj hO ob
 refine zaa zEj ?_
 refine zaa zFj ?_
 refine zma hO (Γ.length+0) (zwa (zwa (zwa (zwa (zqa rfl))))) rfl (by omega) ?_
 generalize (zlc m 0 1).bodies=bb at *
 refine zaa (zpK _ _) ?_
 refine zCa hO ?_
 clear hO
 intro qs H hO
 replace hO:St H ((((((Γ++[(p7,⟨tbC first,true⟩)])++Δ)++zFa vb (zIt bb))++QB qj M.pm (zxk m 0 1))++RM M m)++SB qs qj first):=hO
 refine zAa ob.lenSl ?_
 refine zjI (jv2:=((Γ++[(p7,(⟨tbC first,true⟩:Blk))])++Δ).length+0) (wv:=true) ?_ hbb hbl hbx hO ?_
 ·rcases ob with⟨rfl,h,_⟩|⟨p,h,_⟩
  ·exact .inl ⟨rfl,List.length_eq_zero_iff.1 h⟩
  ·right
   rcases h with rfl|rfl
   ·exact⟨p,_,rfl,zwa (zwa (zqa rfl))⟩
   ·exact⟨p,_,rfl,zwa (zwa (zqa rfl))⟩
 intro H' hO'
 have h5:=hk H' ([(p7,⟨tbC first,true⟩)]++(Δ++zFa vb (zIt bb))) qs qj (hO'.perm (by classical exact List.perm_iff_count.2 fun _=>by simp only[List.count_append,List.count_nil,List.set_cons_zero]; omega))
 exact⟨h5,h5⟩
set_option maxHeartbeats 4000000 in
theorem zCD{N:Nat}(ok:m.Ok)(jok:jn.Ok)(hbk:m.has jn.a∧m.has jn.b)(hsm:m.Sm N)(hN:N+20000≤1000000)(hv:RdC Γ v l)(hl:l.length≤1000)(hver:∀ c ∈ l,0≤c.ver)(hf:(zab t l).2=0→0≤(zab t l).1.flo)(hb1:By (lBy l))(hb2:(zab t l).2=0→By (tBy (zab t l).1))(hM:RMok M m)
  (hO:St H (((Γ++SB qs qj t)++QB qj M.pm jn)++RM M m))
  (hk:∀ H' M',M.Eq M'→St H' (((Γ++SB qs qj (tDo t jn m l).1)++QB qj M'.pm (tDo t jn m l).2.1)++RM M' (tDo t jn m l).2.2.1)→RMok M' (tDo t jn m l).2.2.1→K (int (tDo t jn m l).2.2.2) H') :
  wCall P zCo [ptr qs 0,v] H K:=by
 apply zxA; unfold zbC
 unfold tDo at hk
 refine zaa zga ?_
 refine zaa zfa ?_
 refine zBa hO (Γ.length+0) (zwa (zwa (zqa rfl))) (show _=tbC t from rfl) rfl (by omega) ?_
 refine zvj hO hv.app.app.app (by omega) ?_
 clear hO
 intro H hO
 refine zaa zEj ?_
 refine zaa zFj ?_
 rw[zCG]
 refine zCa hO ?_
 clear hO
 intro p5 H hO
 refine zoa hO (_+0) (zqa rfl) rfl rfl rfl ?_
 clear hO
 intro H hO
 replace hO:=hO.set_r
 replace hO:St H ((((Γ++[(p5,⟨tbC (zab t l).1,true⟩)])++SB qs qj t)++QB qj M.pm jn)++RM M m):=hO.perm (by classical exact List.perm_iff_count.2 fun _=>by simp only[List.count_append,List.count_nil,List.set_cons_zero]; omega)
 have hvG:=hv.app (Δ:=[(p5,(⟨tbC (zab t l).1,true⟩:Blk))])
 have i5:(Γ++[(p5,(⟨tbC (zab t l).1,true⟩:Blk))])[Γ.length+0]?=some (p5,⟨tbC (zab t l).1,true⟩):=zqa rfl
 have fin:∀ {H:Heap} {A B C:List (Nat × Blk)},St H ((((Γ++[(p5,⟨tbC (zab t l).1,true⟩)])++A)++B)++C)→St H (((Γ++A)++B)++C):=fun h=>h.sub (List.Sublist.append (List.Sublist.append (List.Sublist.append (List.sublist_append_left _ _) (List.Sublist.refl _)) (List.Sublist.refl _)) (List.Sublist.refl _))
 generalize Γ++[(p5,(⟨tbC (zab t l).1,true⟩:Blk))]=G at hO hvG i5 fin
 refine zaa zJa ?_
 refine zia (fun h=>?_) (fun h=>?_)
 ·rw[if_pos h] at hk
  exact hk _ M Rm.Eq.rfl' (fin hO) hM
 rw[if_neg h] at hk
 have h0:=Decidable.not_not.1 h
 rw[h0]
 generalize hnx:(zab t l).1=next at *
 have hf:=hf h0
 have hb2:=hb2 h0
 have htl:(tBy next).length≤1000000:=by
  by_cases h:TRight next
  ·rw[zZF h]; omega
  ·rw[zaG h]; simp
 refine zaa zga ?_
 refine zaa zfa ?_
 refine zha hO (G.length+0) (zwa (zwa (zqa rfl))) (v:=ptr qj 0) rfl ?_
 refine zaa zga ?_
 refine zaa zfa ?_
 refine zha hO ((G++SB qs qj t).length+0) (zwa (zqa rfl)) (v:=.bool jn.ready) rfl ?_
 refine zaa zoc ?_
 refine zxa (fun l' H'=>∃ (M2:Rm) (R:Jn × Mp × Int) (an:Bool),l'=[ptr qs 0,ptr p5 0,int R.2.2,.bool an]∧M.Eq M2∧St H' (((G++SB qs qj t)++QB qj M2.pm R.1)++RM M2 R.2.1)∧RMok M2 R.2.1∧(an=true∧R.1=jn∧R.2.1=m∧¬ (jn.ready=true∧(zmb jn m (lBy l)).2.2≠92)∨an=false∧R=zmb jn m (lBy l)∧jn.ready=true∧(zmb jn m (lBy l)).2.2≠92)) ?_ ?_
 ·refine zaa zoc ?_
  rw[Bool.not_not]
  refine zKb (fun h2=>?_) (fun h2=>?_)
  ·refine zaa zga ?_
   refine zaa zfa ?_
   refine zha hO (G.length+0) (zwa (zwa (zqa rfl))) (v:=ptr qj 0) rfl ?_
   refine zam hO hvG.app.app.app hl hver ?_
   intro H2 vp cp hO2 hp
   refine⟨zlb hO (G.length+0) (zwa (zwa (zqa rfl))) hO2 (G.length+0) (zwa (zwa (zwa (zqa rfl)))) rfl,?_⟩
   clear hO
   refine zAa (hp.rd.app'.str hO2) ?_
   refine znx ok jok hbk hsm (by omega) hb1 hM hO2.left ?_
   clear hO2
   intro H3 M3 he3 hO3 hM3
   refine zaa zYa ?_
   by_cases h3:(zmb jn m (lBy l)).2.2=92
   ·have hfu:=zut h3 (fun a l=>zjx l _ _)
    rw[decide_eq_true h3]
    exact⟨M3,_,true,rfl,he3,hO3,hM3,.inl ⟨rfl,hfu.1,hfu.2,fun h4=>h4.2 h3⟩⟩
   ·rw[decide_eq_false h3]
    exact⟨M3,_,false,rfl,he3,hO3,hM3,.inr ⟨rfl,rfl,h2,h3⟩⟩
  ·refine⟨M,(jn,m,0),_,rfl,Rm.Eq.rfl',hO,hM,.inl ⟨by rw[h2]; rfl,rfl,rfl,fun h4=>by rw[h2] at h4; cases h4.1⟩⟩
 clear hO hM
 rintro l' H ⟨M2,R,an,rfl,he2,hO,hM2,hc⟩
 try simp only[zja,zka]
 refine zxa (fun l' H'=>∃ (M3:Rm),l'=[ptr qs 0,ptr p5 0,int (zgh jn m next l).2.2]∧M.Eq M3∧St H' (((G++SB qs qj t)++QB qj M3.pm (zgh jn m next l).1)++RM M3 (zgh jn m next l).2.1)∧RMok M3 (zgh jn m next l).2.1) ?_ ?_
 ·rcases hc with⟨rfl,hR1,hR2,hn⟩|⟨rfl,rfl,hr,hn⟩
  ·have ek:zgh jn m next l=zTc jn m (tBy next):=if_neg hn
   rw[ek]
   rw[hR1,hR2] at hO
   rw[hR2] at hM2
   refine zxe rfl ?_
   refine zaa zga ?_
   refine zaa zfa ?_
   refine zha hO (G.length+0) (zwa (zwa (zqa rfl))) (v:=ptr qj 0) rfl ?_
   refine zma hO (Γ.length+0) (zwa (zwa (zwa i5))) rfl (by omega) ?_
   refine zZq hO hf ?_
   intro H2 vp cp hO2 hp
   refine⟨zlb hO (G.length+0) (zwa (zwa (zqa rfl))) hO2 (G.length+0) (zwa (zwa (zwa (zqa rfl)))) rfl,?_⟩
   clear hO
   refine zAa (hp.rd.app'.str hO2) ?_
   refine zAz ok jok hbk hsm (by omega) hb2 hM2 hO2.left ?_
   clear hO2
   intro H3 M3 he3 hO3 hM3
   exact⟨M3,rfl,he2.trans he3,hO3,hM3⟩
  ·have ek:zgh jn m next l=zmb jn m (lBy l):=if_pos ⟨hr,hn⟩
   rw[ek]
   refine zUd rfl ?_
   exact⟨M2,rfl,he2,hO,hM2⟩
 clear hO hM2 hc
 rintro l' H ⟨M3,rfl,he3,hO,hM3⟩
 try simp only[zja,zka]
 generalize zgh jn m next l=R at *
 refine zaa zYa ?_
 refine zia (fun h2=>?_) (fun h2=>?_)
 ·rw[if_neg (fun h=>h h2)] at hk
  refine zma hO (Γ.length+0) (zwa (zwa (zwa i5))) rfl (by omega) ?_
  refine zaa zga ?_
  refine zaa zfa ?_
  rw[List.append_assoc (G++SB qs qj t)] at hO
  refine zfc hO (G.length+0) (zwa (zqa rfl)) rfl (show 0+1+75≤(ptr qj 0::tbC t).length from Nat.le_refl _) rfl ?_
  clear hO
  intro H hO
  replace hO:St H ((G++SB qs qj next)++_):=zqK hO rfl
  rw[← List.append_assoc (G++SB qs qj next)] at hO
  rw[h2]
  exact hk _ M3 he3 (fin hO) hM3
 ·rw[if_pos h2] at hk
  exact hk _ M3 he3 (fin hO) hM3
end J
set_option maxRecDepth 100000
namespace J
open Go Go.Ab
variable{H:Heap}{Γ Γ0 Γ2 Δ M G:List (Nat × Blk)}{K:VH}{v w x:Value}{xs ys bs body:List Int}{j p:Nat}{e:Int}{ss tt bb:List (List Int)}
variable{L:Mloc}{m:Mp}{s:List Int}{pj ps A B k:Nat}{jn:Jn}{vals cs:List Value}{t next first:Tb}{l:List Ch}
theorem _root_.Go.Ab.St.keepP{R:List (Nat × Blk)}(h:St H Γ)(hp:Γ.Perm (Δ++R)):St H Δ:=(h.perm hp).left
def kT:List CK:=kS++(kS++[.i .i64,.i .i64,.i .u64])
theorem f37:flatK P 100 30=some kT:=by kernel_rfl
theorem zRM(t:Tb):Fit kT (tbC t):=Fit.join (zCK t.a) (Fit.join (zCK t.b) ⟨rfl,rfl,rfl,trivial⟩)
theorem zSM{t t':Tb}(h:tbC t=tbC t')(c:Bool):(zta P .neq 30 c).f (agg (tbC t)) (agg (tbC t'))=some (.bool false):=by
 rw[h]
 rw[zgs f37 (by kernel_rfl) (by kernel_rfl) (zRM t') (zRM t'),zNf (zRM t')]; rfl
def mt(A B:Nat):Mp:=⟨Dv.new 60 10000,spansFrom 0 [A,B],0,[]⟩
theorem zRL(a b:Int)(H:Heap):(zpa P 38 2).f [(0,int a),(1,int b)] H=some (sl H.next 0 2 3,H.push [int a,int b]):=by kernel_rfl
theorem zDD(hO:St H Γ)(hA:1≤A)(hB:1≤B)(hs:A+B≤60)(hk:∀ H' L,St H' (Γ++MW L (mt A B))→Mown L (mt A B)→K (ptr L.pm 0) H'):wCall P zSj [agg [int A,int B]] H K:=by
 apply znw; unfold zSu
 refine zCa hO ?_
 clear hO
 intro p1 H hO
 replace hO:St H (Γ++[(p1,⟨[int A,int B],true⟩)]):=hO
 refine zvF (n:=60) (w:=10000) (by omega) (by omega) hO ?_
 intro H2 pd pc hO2
 refine zaa (zkb (by omega) (by omega)) ?_
 refine zha hO2 (Γ.length+0) (zwa (zqa rfl)) (v:=int A) rfl ?_
 refine⟨zlb hO (Γ.length+0) (zqa rfl) hO2 (Γ.length+0) (zwa (zqa rfl)) rfl,?_⟩
 refine zaa (zkb (by omega) (by omega)) ?_
 refine zha hO2 (Γ.length+0) (zwa (zqa rfl)) (v:=int B) rfl ?_
 refine⟨zlb hO (Γ.length+0) (zqa rfl) hO2 (Γ.length+0) (zwa (zqa rfl)) rfl,?_⟩
 refine zEa hO2 (zRL _ _ _) ?_
 clear hO hO2
 intro q H hO
 replace hO:=hO.rot
 refine zxF (sizes:=[A,B]) (jz:=(Γ++[(p1,(⟨[int A,int B],true⟩:Blk))]).length+0) (Dv.new_ok (by omega) (by omega)) hO (zqa rfl) (by simp) (by simp) (fun n hn=>?_) ?_ (.inl ⟨rfl,rfl,rfl⟩) ?_
 ·simp at hn; rcases hn with rfl|rfl <;> omega
 ·show A+(B+0)≤(List.replicate 60 zmf).length
  rw[List.length_replicate]; omega
 clear hO
 intro H pm ps hO hv
 refine zaa zEj ?_
 refine zaa zFj ?_
 replace hO:St H (((Γ++[(p1,⟨[int A,int B],true⟩)])++[(q,⟨[int A,int B],true⟩)])++MW ⟨pm,pd,pc,ps,zya,zya⟩ (mt A B)):=hO
 exact hk H ⟨pm,pd,pc,ps,zya,zya⟩ (hO.keepP (R:=[(p1,⟨[int A,int B],true⟩)]++[(q,⟨[int A,int B],true⟩)]) (by classical exact List.perm_iff_count.2 fun _=>by simp only[List.count_append,List.count_nil,List.set_cons_zero]; omega)) hv
theorem zSL(hs:A+B≤60):Two (mt A B) A B:=⟨⟨[],by show (0,A)::(0+A,B)::[]=_; rw[Nat.zero_add]⟩,by show A+B≤(List.replicate 60 zmf).length; rw[List.length_replicate]; omega⟩
theorem zTM(hs:A+B≤60):(mt A B).Ok:=by
 have e:(mt A B).d.cells.length=60:=List.length_replicate
 refine⟨Dv.new_ok (by omega) (by omega),fun x hx=>?_,by show 2≤16; omega⟩
 rw[e]
 have hx:x ∈ [(0,A),(0+A,B)]:=hx
 simp at hx
 rcases hx with rfl|rfl <;> simp <;> omega
theorem zqB{n:Int}(hO:St H (Γ++MW L m))(hk:∀ H',St H' (Γ++MW L { m with d:=m.d.limit n })→K (.tuple [].toArray) H'):wCall P zpc [ptr L.pd 0,int n] H K:=by
 refine zPy (MW.toD hO) ?_
 intro H' h
 exact hk H' (MW.ofD (L:=L) (m:={ m with d:=m.d.limit n }) h)
theorem zox{ks:List Int}(ok:m.d.Ok)(hd:m.d.done.length≤1000000)(hO:St H (Γ++MW L m))(hv:Mown L m)(hw:RdB Γ w ks)(hb:By ks)
  (hk:∀ H',St H' (Γ++MW { L with vd:=zya } { m with d:=m.d.restart ks })→Mown { L with vd:=zya } { m with d:=m.d.restart ks }→K (.tuple [].toArray) H'):wCall P zqb [ptr L.pd 0,w] H K:=by
 refine zMw ok hd (MW.toD hO) hv.d hw.app.app hb ?_
 intro H' h
 exact hk H' (MW.ofD (L:={ L with vd:=zya }) (m:={ m with d:=m.d.restart ks }) h) ⟨.inl ⟨rfl,rfl,rfl⟩,hv.o⟩
theorem SInv.mono{k':Nat}{mays:List Tb}(h:SInv A B k t jn m mays)(hk:k≤k'):SInv A B k' t jn m mays:=by
 obtain⟨b,mb,hi,h2,h3⟩:=h.i
 exact⟨h.r,h.w,h.mr,b,mb,hi.mono hk,h2,h3⟩
structure Act where
 kind:Int
 n:Int
 vc:Value
 chs:List Ch
 vk:Value
 kept:List Int
def zpx(a:Act):List Value:=[int a.kind,int a.n,a.vc,a.vk]
def ArgB(Γ:List (Nat × Blk))(v:Value)(xs:List Int):Prop:=(v=zya∧xs=[])∨∃ (p j:Nat),v=sl p 0 xs.length 2∧Γ[j]?=some (p,(⟨by8 xs,false⟩:Blk))
theorem ArgB.rd(h:ArgB Γ v xs):RdB Γ v xs:=by
 rcases h with h|⟨p,j,h1,h2⟩
 ·exact .inl h
 ·exact .inr ⟨p,0,2,h1,.inl rfl,.inr ⟨j,_,h2,by rw[List.drop_zero]; exact List.take_of_length_le (by rw[zsa]; omega)⟩⟩
theorem ArgB.app(h:ArgB Γ v xs):ArgB (Γ++Δ) v xs:=by
 rcases h with h|⟨p,j,h1,h2⟩
 ·exact .inl h
 ·exact .inr ⟨p,j,h1,zwa h2⟩
theorem zUI(h:ArgB Δ v xs):ArgB (Γ++Δ) v xs:=by
 rcases h with h|⟨p,j,h1,h2⟩
 ·exact .inl h
 ·exact .inr ⟨p,Γ.length+j,h1,zqa h2⟩
def ArgC(Γ:List (Nat × Blk))(v:Value)(l:List Ch):Prop:=(v=zya∧l=[])∨∃ (p j:Nat),v=sl p 0 l.length 80∧Γ[j]?=some (p,(⟨chs l,false⟩:Blk))
theorem ArgC.rd(h:ArgC Γ v l):RdC Γ v l:=by
 rcases h with⟨rfl,rfl⟩|⟨p,j,rfl,h⟩
 ·exact⟨rfl,.inl rfl⟩
 ·exact⟨rfl,.inr ⟨p,80,j,rfl,false,h⟩⟩
theorem ArgC.app(h:ArgC Γ v l):ArgC (Γ++Δ) v l:=by
 rcases h with h|⟨p,j,h1,h2⟩
 ·exact .inl h
 ·exact .inr ⟨p,j,h1,zwa h2⟩
theorem zTL(h:ArgC Δ v l):ArgC (Γ++Δ) v l:=by
 rcases h with h|⟨p,j,h1,h2⟩
 ·exact .inl h
 ·exact .inr ⟨p,Γ.length+j,h1,zqa h2⟩
structure Act.Rd (Γ:List (Nat × Blk)) (a:Act):Prop where
 c:ArgC Γ a.vc a.chs
 cb:∀ c ∈ a.chs,CBy c
 k:ArgB Γ a.vk a.kept
 kb:By a.kept
 n:a.n≤9223372036854775807
theorem Act.Rd.app{a:Act}(h:a.Rd Γ):a.Rd (Γ++Δ):=⟨h.c.app,h.cb,h.k.app,h.kb,h.n⟩
theorem Act.Rd.app'{a:Act}(h:a.Rd Δ):a.Rd (Γ++Δ):=⟨zTL h.c,h.cb,zUI h.k,h.kb,h.n⟩
def RdActs(Γ:List (Nat × Blk))(v:Value)(l:List Act):Prop:=((v=zya∧l=[])∨∃ (p c j:Nat) (w:Bool),v=sl p 0 l.length c∧Γ[j]?=some (p,(⟨l.flatMap zpx,w⟩:Blk)))∧∀ a ∈ l,a.Rd Γ
theorem RdActs.app{l:List Act}(h:RdActs Γ v l):RdActs (Γ++Δ) v l:=by
 refine⟨?_,fun a ha=>(h.2 a ha).app⟩
 rcases h.1 with h|⟨p,c,j,w,h1,h2⟩
 ·exact .inl h
 ·exact .inr ⟨p,c,j,w,h1,zwa h2⟩
theorem RdActs.lenSl{l:List Act}(h:RdActs Γ v l):Ab.lenSl v H=some (int l.length,H):=by
 rcases h.1 with⟨rfl,rfl⟩|⟨p,c,j,w,rfl,_⟩ <;> rfl
theorem RdActs.at{l:List Act}{K:VH}(hO:St H Γ)(h:RdActs Γ v l){i:Nat}(hi:i < l.length)(hk:K (agg (zpx l[i])) H):opP (zWa 4 v (int i)) fun t=>opW (zna 4 t H) K:=by
 rcases h.1 with⟨rfl,rfl⟩|⟨p,c,j,w,rfl,hj⟩
 ·simp at hi
 ·refine zaa (zHa (by omega) (by omega)) ?_
  have hf:=zym (f:=zpx) (l:=l) (n:=4) (o:=0) (m:=4) (fun x _=>rfl) hi (by omega)
  rw[Nat.zero_add,Int.toNat_natCast]
  refine zBa hO j hj (show _=zpx l[i] from ?_) rfl (by omega) hk
  rw[Nat.add_zero] at hf
  rw[hf,List.drop_zero]
  exact List.take_of_length_le (Nat.le_refl _)
theorem ArgB.shape(h:ArgB Γ v xs):∃ a n c,v=.slice a n c:=by
 rcases h with⟨rfl,_⟩|⟨p,j,rfl,_⟩ <;> exact⟨_,_,_,rfl⟩
theorem RdC.shape(h:ArgC Γ v l):v=zya∨∃ p n c,v=sl p 0 n c:=by
 rcases h with⟨rfl,_⟩|⟨p,j,rfl,hj⟩
 ·exact .inl rfl
 ·exact .inr ⟨_,_,_,rfl⟩
theorem zrK{a:Act}(h:a.Rd Γ):(zpx a).all oneCell=true:=by
 obtain⟨x,n,c,e⟩:=ArgB.shape h.k
 unfold zpx
 rcases RdC.shape h.c with e2|⟨p,n,c,e2⟩ <;> rw[e,e2] <;> rfl
theorem zzv{a:Act}(h:a.Rd Γ):(zpx a).all zad=true:=by
 have h1:zad a.vk=true:=by
  rcases h.k with⟨h,_⟩|⟨p,j,h,_⟩ <;> rw[h] <;> rfl
 have h2:zad a.vc=true:=by
  rcases RdC.shape h.c with h|⟨p,n,c,h⟩ <;> rw[h] <;> rfl
 simp[zpx,h1,h2]
 exact⟨rfl,rfl⟩
theorem zUM:zc P 52=[int 0,int 0,zya,zya]:=by kernel_rfl
end J
set_option maxRecDepth 100000
namespace J
open Go Go.Ab
variable{H:Heap}{Γ Γ0 Γ2 Δ G:List (Nat × Blk)}{K:VH}{v w x:Value}{xs ys bs body:List Int}{j p qj qs A B k:Nat}{e:Int}{ss tt bb:List (List Int)}{m m' m2:Mp}{part pos:Int}{M:Rm}{jn:Jn}{t next first:Tb}{l:List Ch}{L:Mloc}{ps pj:Nat}
structure Shp (m m':Mp):Prop where
 s:m'.spans=m.spans
 c:m'.d.cells.length=m.d.cells.length
theorem Shp.rfl':Shp m m:=⟨rfl,rfl⟩
theorem Shp.trans(h:Shp m m')(h2:Shp m' m2):Shp m m2:=⟨h2.s.trans h.s,h2.c.trans h.c⟩
theorem zBz:Shp m (m.erase part pos).1:=by
 unfold Mp.erase
 split
 ·exact .rfl'
 ·unfold Mp.note
  split
  ·exact⟨rfl,Dv.erase_len⟩
  ·exact⟨rfl,Dv.erase_len⟩
theorem zEt{s:List Int}:Shp m (m.program part pos s).1:=by
 unfold Mp.program
 split
 ·exact .rfl'
 ·unfold Mp.note
  split
  ·exact⟨rfl,Dv.program_len⟩
  ·exact⟨rfl,Dv.program_len⟩
theorem zxr:Shp m m.sync.1:=⟨rfl,Dv.sync_len⟩
theorem zFt:∀ (n y:Nat) (m:Mp),Shp m (Mp.wipeN part n y m).1
 | 0,_,m=>.rfl'
 | n+1,y,m=>by
  rw[Mp.wipeN_succ]
  split
  ·exact zFt n _ m
  split
  ·exact zBz
  ·exact zBz.trans (zFt n _ _)
theorem zyr:Shp m (m.wipe part).1:=by
 unfold Mp.wipe
 split
 ·exact .rfl'
 ·exact zFt _ _ _
theorem zFk{bank:Int}:∀ (l:List (List Int)) (a:Int) (m:Mp),Shp m (zCc bank a l m).1
 | [],a,m=>zxr
 | s::r,a,m=>by
  rw[zie]
  split
  ·exact zEt
  ·exact zEt.trans (zFk r _ _)
theorem zsG:Shp m (zTc jn m body).2.1∧(zTc jn m body).1.a=jn.a∧(zTc jn m body).1.b=jn.b:=by
 unfold zTc
 split
 ·exact⟨.rfl',rfl,rfl⟩
 simp only
 split
 ·exact⟨zyr,rfl,rfl⟩
 split
 ·exact⟨zyr.trans zxr,rfl,rfl⟩
 split
 ·exact⟨(zyr.trans zxr).trans (zFk _ _ _),rfl,rfl⟩
 ·exact⟨(zyr.trans zxr).trans (zFk _ _ _),rfl,rfl⟩
theorem zED:Shp m (zmb jn m body).2.1∧(zmb jn m body).1.a=jn.a∧(zmb jn m body).1.b=jn.b:=by
 unfold zmb
 split
 ·exact⟨.rfl',rfl,rfl⟩
 simp only
 split
 ·exact⟨.rfl',rfl,rfl⟩
 split
 ·exact⟨zFk _ _ _,rfl,rfl⟩
 ·exact⟨zFk _ _ _,rfl,rfl⟩
theorem Two.shp(h:Two m A B)(hs:Shp m m'):Two m' A B:=by
 obtain⟨r,e⟩:=h.sp
 exact⟨⟨r,hs.s.trans e⟩,by rw[hs.c]; exact h.fit⟩
structure WI (A B k:Nat) (t:Tb) (jn:Jn) (m:Mp):Prop where
 ok:m.Ok
 jok:jn.Ok
 jab:Jab jn
 sm:m.Sm (5000 * k)
 bd:BD m.d
 two:Two m A B
 tw:TW t
theorem WI.has(h:WI A B k t jn m):m.has jn.a∧m.has jn.b:=by
 rw[h.jab.a,h.jab.b]
 exact⟨(zWw h.two (.inl rfl)).1,(zWw h.two (.inr rfl)).1⟩
theorem WI.mono{k':Nat}(h:WI A B k t jn m)(hk:k≤k'):WI A B k' t jn m:=⟨h.ok,h.jok,h.jab,h.sm.mono (by omega),h.bd,h.two,h.tw⟩
theorem zUL(h:WI A B k t jn m)(hb1:By (lBy l))(hb2:By (tBy next)):WI A B (k+1) t (zgh jn m next l).1 (zgh jn m next l).2.1:=by
 unfold zgh
 split
 ·have hs:=zED (jn:=jn) (m:=m) (body:=lBy l)
  exact⟨zsD h.ok,zUA h.ok h.jok,⟨hs.2.1.trans h.jab.a,hs.2.2.trans h.jab.b⟩,(ztD h.ok h.sm).mono (by omega),zQF h.bd hb1,h.two.shp hs.1,h.tw⟩
 ·have hs:=zsG (jn:=jn) (m:=m) (body:=tBy next)
  exact⟨zHF h.ok,zrD h.jok,⟨hs.2.1.trans h.jab.a,hs.2.2.trans h.jab.b⟩,(zIF h.ok h.sm).mono (by omega),zRH h.bd hb2,h.two.shp hs.1,h.tw⟩
theorem zCN(h:WI A B k t jn m)(hc:∀ c ∈ l,CBy c):WI A B (k+1) (tDo t jn m l).1 (tDo t jn m l).2.1 (tDo t jn m l).2.2.1:=by
 have hw:=zkx h.tw hc
 have hk:=zUL (next:=(zab t l).1) (l:=l) h (zzC hc) (zbG hw.a hw.b)
 unfold tDo
 split
 ·exact h.mono (by omega)
 split
 ·exact hk
 ·exact⟨hk.ok,hk.jok,hk.jab,hk.sm,hk.bd,hk.two,hw⟩
theorem zsK{n:Int}(h:WI A B k t jn m)(hn:n≤9223372036854775807):WI A B k t jn { m with d:=m.d.limit n }:=by
 have hd:=h.ok.d
 exact⟨⟨⟨hd.c,hd.n,hd.ds,hd.m,by show -1≤max n (-1)∧max n (-1)≤_; omega⟩,h.ok.s,h.ok.n⟩,h.jok,h.jab,h.sm,⟨h.bd.c,h.bd.w⟩,⟨h.two.sp,h.two.fit⟩,h.tw⟩
theorem ztG(ks:List Int)(h:WI A B k t jn m):WI A B k t jn { m with d:=m.d.restart ks }:=by
 have hd:=Dv.restart_ok h.ok.d ks
 have hl:(m.d.restart ks).cells.length=m.d.cells.length:=by
  show (zVb _ _).length=_
  rw[zse,zcc]
 exact⟨⟨hd,fun x hx=>by show x.1+x.2≤(m.d.restart ks).cells.length; rw[hl]; exact h.ok.s x hx,h.ok.n⟩,h.jok,h.jab,⟨Nat.zero_le _,h.sm.2⟩,zwD h.bd ks,h.two.shp ⟨rfl,hl⟩,h.tw⟩
theorem zVM(h:WI A B k t jn m):WI A B k t jn { m with ops:=[] }:=
 ⟨⟨h.ok.d,h.ok.s,h.ok.n⟩,h.jok,h.jab,⟨h.sm.1,Nat.zero_le _⟩,h.bd,⟨h.two.sp,h.two.fit⟩,h.tw⟩
theorem zVI:∀ (r:List (List Int)) (t:Tb),TW t→(∀ b ∈ r,By b)→TW (tGo t r)
 | [],t,h,_=>h
 | b::r,t,h,hb=>by
  rw[zix]
  split
  ·exact h
  split
  ·exact h
  ·refine zVI r _ (zkx h ?_) fun x hx=>hb x (List.mem_cons_of_mem _ hx)
   exact zYH (hb b List.mem_cons_self)
theorem zkI(h:TW first)(hb:∀ b ∈ bb,By b):TW (zfd bb first):=by
 match bb,hb with
 | [],_=>exact h
 | b::r,hb=>
  show TW (if (zAd b).2≠0 then first else tGo (zAd b).1 r)
  split
  ·exact h
  ·exact zVI r _ (zXH (hb b List.mem_cons_self)) fun x hx=>hb x (List.mem_cons_of_mem _ hx)
theorem zrB:∀ (n want:Nat) (ss:List (List Int)) (out:Row),(∀ s ∈ ss,By s)→out.last < 2 ^ 64→(zPc n want ss out).last < 2 ^ 64
 | 0,_,_,_,_,h=>h
 | n+1,want,ss,out,hb,h=>by
  show (if zld want (zQd ss) out then out else zPc n 2 (ss.drop (zQd ss).many) (zcf want (zQd ss) out)).last < 2 ^ 64
  split
  ·exact h
  ·exact zrB n 2 _ _ (fun s hs=>hb s (List.mem_of_mem_drop hs)) (zTw hb).1
theorem zFD(hb:BD m.d){a b:Int}:(zlc m a b).last < 2 ^ 64:=by
 unfold zlc
 split
 ·exact zrB _ _ _ _ (zgg hb) (by decide)
 ·exact zrB _ _ _ _ (zgg hb) (by decide)
theorem zWI(h:WI A B k t jn m)(hf:TW first):WI A B k (zfd (zlc m 0 1).bodies first) (zxk m 0 1) m:=
 ⟨h.ok,⟨by unfold zxk; simp only; split <;> simp,(fun h=>by have h:false=true:=h; cases h),by show (0:Int)≤0∧(0:Int)≤_; omega,zFD h.bd⟩,⟨rfl,rfl⟩,h.sm,h.bd,h.two,zkI hf (zcx h.bd)⟩
theorem zWM(hA:1≤A)(hB:1≤B)(hs:A+B≤60)(hf:TW first):WI A B 0 first ⟨0,1,1,0,0,false⟩ (mt A B):=
 ⟨zTM hs,⟨.inr rfl,(fun h=>by cases h),by show (0:Int)≤0∧(0:Int)≤_; omega,by show 0 < 2 ^ 64; omega⟩,⟨rfl,rfl⟩,⟨Nat.zero_le _,Nat.zero_le _⟩,znL,zSL hs,hf⟩
end J
set_option maxRecDepth 100000
namespace J
open Go Go.Ab
variable{H:Heap}{Γ Γ0 Γ2 Δ G:List (Nat × Blk)}{K:VH}{v w x:Value}{xs ys bs body:List Int}{j p qj qs A B k:Nat}{e:Int}{ss tt bb:List (List Int)}{m m' m2:Mp}{part pos:Int}{M:Rm}{jn:Jn}{t next first:Tb}{l:List Ch}{L:Mloc}{ps pj:Nat}
abbrev PW(ps pj:Nat)(L:Mloc)(t:Tb)(jn:Jn)(m:Mp):List (Nat × Blk):=SB ps pj t++(JB pj L.pm jn++MW L m)
abbrev QW(qs qj:Nat)(M:Rm)(t:Tb)(jn:Jn)(m:Mp):List (Nat × Blk):=SB qs qj t++(QB qj M.pm jn++RM M m)
theorem PW.out(h:St H ((Γ++PW ps pj L t jn m)++Δ)):St H ((((Γ++Δ)++SB ps pj t)++JB pj L.pm jn)++MW L m):=h.perm (by classical exact List.perm_iff_count.2 fun _=>by simp only[List.count_append,List.count_nil,List.set_cons_zero]; omega)
theorem PW.inn(h:St H ((((Γ++Δ)++SB ps pj t)++JB pj L.pm jn)++MW L m)):St H ((Γ++PW ps pj L t jn m)++Δ):=h.perm (by classical exact List.perm_iff_count.2 fun _=>by simp only[List.count_append,List.count_nil,List.set_cons_zero]; omega)
theorem QW.out(h:St H (Γ++QW qs qj M t jn m)):St H (((Γ++SB qs qj t)++QB qj M.pm jn)++RM M m):=h.perm (by classical exact List.perm_iff_count.2 fun _=>by simp only[List.count_append,List.count_nil,List.set_cons_zero]; omega)
theorem QW.inn(h:St H (((Γ++SB qs qj t)++QB qj M.pm jn)++RM M m)):St H (Γ++QW qs qj M t jn m):=h.perm (by classical exact List.perm_iff_count.2 fun _=>by simp only[List.count_append,List.count_nil,List.set_cons_zero]; omega)
theorem zVL(p o:Nat):(zta P .eql 42 true).f (ptr p o) (.pointer none)=some (.bool false):=by kernel_rfl
theorem zWL:(zta P .eql 42 true).f (.pointer none) (.pointer none)=some (.bool true):=by kernel_rfl
theorem zlI(hf:¬ TRight first)(hO:St H Γ)(hk:∀ H',St H' Γ→K (.tuple [.pointer none,.int .i64 111].toArray) H'):wCall P zOf [v,int 0,int 1,agg (tbC first)] H K:=by
 apply zen; unfold zDo
 refine zCa hO ?_
 clear hO
 intro p7 H hO
 refine zma hO (_+0) (zqa rfl) (cs:=tbC first) rfl (by omega) ?_
 refine zVc hO ?_
 clear hO
 intro H hO
 rw[decide_eq_false hf]
 refine zaa zoc ?_
 refine zxe rfl ?_
 exact hk _ hO.left
theorem zuG{l:List Op}{n:Nat}(h:Own 4 v n (zQh l))(hn:n=l.length):l≠[]→∃ p c,v=sl p 0 l.length c∧(Γ++zFa v (zQh l))[Γ.length+0]?=some (p,⟨zQh l,true⟩):=by
 subst hn
 intro hne
 rcases h with⟨_,h,_⟩|⟨p,rfl|rfl,_⟩
 ·exact absurd (List.length_eq_zero_iff.1 h) hne
 ·exact⟨p,_,rfl,zqa rfl⟩
 ·exact⟨p,_,rfl,zqa rfl⟩
theorem zXI(h2:Two m A B)(hA:A≤30)(hB:B≤30)(hbd:BD m.d):∀ x ∈ (zlc m 0 1).bodies,x.length≤1000000:=by
 have h:∀ (n want:Nat) (ss:List (List Int)) (out:Row),(∀ x ∈ out.bodies,x.length≤1000000)→∀ x ∈ (zPc n want ss out).bodies,x.length≤1000000:=by
  intro n
  induction n with
  | zero=>intro want ss out ho; exact ho
  | succ n ih=>
   intro want ss out ho
   show ∀ x ∈ (if zld want (zQd ss) out then out else zPc n 2 (ss.drop (zQd ss).many) (zcf want (zQd ss) out)).bodies,x.length≤1000000
   split
   ·exact ho
   ·refine ih 2 _ _ fun x hx=>?_
    have hx:x ∈ out.bodies++[(zQd ss).body]:=hx
    rcases List.mem_append.1 hx with hx|hx
    ·exact ho x hx
    ·rw[List.mem_singleton.1 hx]
     unfold zQd
     match ss with
     | []=>simp[fr0]
     | s::r=>
      simp only
      split
      ·simp[fr0]
      split
      ·simp[fr0]
      ·show (zsk (s::r) s).length≤_
       rename_i hbad _
       unfold zsk
       rw[List.length_take]
       have:zOb (zue s)≠0:=fun h0=>hbad (.inr (.inl h0))
       unfold zOb at this
       by_cases h4:(zue s:Int) < 0∨4000 < (zue s:Int)
       ·rw[if_pos h4] at this; exact absurd rfl this
       ·omega
 unfold zlc
 split
 ·exact h _ _ _ _ (fun x hx=>by cases hx)
 ·exact h _ _ _ _ (fun x hx=>by cases hx)
theorem zvG{n:Int}(hM:RMok M m)(hO:St H (Γ++RM M m))(hk:∀ H' M',M.Eq M'→St H' (Γ++RM M' { m with d:=m.d.limit n })→RMok M' { m with d:=m.d.limit n }→K (.tuple [].toArray) H'):wCall P zvg [ptr M.r.pd 0,int n] H K:=by
 refine zqz hM.r (RM.toD hO) ?_
 intro H hO hR
 exact hk H { M with r:=M.r.lim n } ⟨rfl,rfl⟩ (RM.dev rfl hO) ⟨hR,hM.o,hM.s⟩
theorem zsB{ks:List Int}(ok:m.d.Ok)(hd:m.d.done.length≤1000000)(hM:RMok M m)(hO:St H (Γ++RM M m))(hw:RdB Γ w ks)(hb:By ks)(hk:∀ H' M',M.Eq M'→St H' (Γ++RM M' { m with d:=m.d.restart ks })→RMok M' { m with d:=m.d.restart ks }→K (.tuple [].toArray) H'):wCall P zyc [ptr M.r.pd 0,w] H K:=by
 refine zxu ok hd hM.r (RM.toD hO) hw.app.app hb ?_
 intro H hO hR
 exact hk H { M with r:={ M.r with vd:=zya } } ⟨rfl,rfl⟩ (RM.dev rfl hO) ⟨hR,hM.o,hM.s⟩
structure LR (A B y:Nat) (acts:List Act) (actsv:Value) (Γ0:List (Nat × Blk)) (p4:Nat) (first:Tb) (pm qm:Nat) (t:Tb) (jn:Jn) (m:Mp) (L:Mloc) (M:Rm):Prop where
 own:Mown L m
 rok:RMok M m
 actr:RdActs Γ0 actsv acts
 fj:∃ j:Nat,Γ0[j]?=some (p4,(⟨tbC first,true⟩:Blk))
 w:WI A B y t jn m
 hL:L.pm=pm
 hM:M.pm=qm
end J
set_option maxRecDepth 100000
namespace J
open Go Go.Ab
variable{H:Heap}{Γ Γ0 Γ2 Δ G:List (Nat × Blk)}{K:VH}{v w x:Value}{xs ys bs body:List Int}{j p A B k:Nat}{e:Int}{ss tt bb:List (List Int)}{m' m2:Mp}{part pos:Int}{next first:Tb}{l:List Ch}
set_option maxHeartbeats 16000000 in
theorem zmI{acts:List Act}{actsv:Value}{p4 pm qm n:Nat}{ps pj qs qj:Nat}{t:Tb}{jn:Jn}{m:Mp}{L:Mloc}{M:Rm}{Qx:LX}{Qr:LN}
  (hA:A≤30) (hB:B≤30) (hf:TRight first) (htw:TW first) (hn:n=acts.length) (hn40:n≤40)
  (hO:St H ((G++PW ps pj L t jn m)++QW qs qj M t jn m)) (hls:LR A B 0 acts actsv G p4 first pm qm t jn m L M)
  (hx:∀ H' Γ0 ps pj qs qj t jn m L M,St H' ((Γ0++PW ps pj L t jn m)++QW qs qj M t jn m)→LR A B acts.length acts actsv Γ0 p4 first pm qm t jn m L M→Qx 0 [.bool false,ptr pm 0,ptr qm 0] H')
  (hr:∀ H',Qr [.bool true,ptr pm 0,ptr qm 0] H') :
  zbb P true 197 zVe 448 [ptr p4 0,.bool false,ptr pm 0,ptr qm 0,ptr ps 0,ptr qs 0,actsv,int n,int 0] H Qx Qr:=by
 subst hn
 refine zyj (fun k l' H'=>∃ (y:Nat) (Γ0:List (Nat × Blk)) (ps pj qs qj:Nat) (t:Tb) (jn:Jn) (m:Mp) (L:Mloc) (M:Rm),y≤acts.length∧k=acts.length - y∧l'=[ptr p4 0,.bool false,ptr pm 0,ptr qm 0,ptr ps 0,ptr qs 0,actsv,int acts.length,int y]∧St H' ((Γ0++PW ps pj L t jn m)++QW qs qj M t jn m)∧LR A B y acts actsv Γ0 p4 first pm qm t jn m L M) _ _ ?_ acts.length _ _ ⟨0,G,ps,pj,qs,qj,t,jn,m,L,M,by omega,by omega,rfl,hO,hls⟩
 clear hO hls ps pj qs qj t jn m L M
 rintro k l' H ⟨y,Γ0,ps,pj,qs,qj,t,jn,m,L,M,hy,rfl,rfl,hO,ls⟩
 unfold zwh
 try simp only[zja,zka]
 refine zaa zKa ?_
 refine zia (fun h=>?_) (fun h=>?_)
 rotate_left
 ·have ey:y=acts.length:=by omega
  subst ey
  exact hx _ _ _ _ _ _ _ _ _ _ _ hO ls
 have hyl:y < acts.length:=by omega
 obtain⟨a,ha⟩:∃ a,a=acts[y]:=⟨_,rfl⟩
 have hrd0:a.Rd Γ0:=by rw[ha]; exact ls.actr.2 _ (List.getElem_mem hyl)
 refine RdActs.at (l:=acts) hO ls.actr.app.app hyl ?_
 rw[← ha]
 have hadd:(zta P .add 3 true).f (int y) (.int .i64 1)=some (int ((y+1:Nat):Int)):=by rw[show ((y+1:Nat):Int)=(y:Int)+1 by omega]; exact zyb (by omega) (by omega)
 rw[zUM]
 refine zCa hO ?_
 clear hO
 intro p13 H hO
 refine zoa hO (_+0) (zqa rfl) rfl (show (zpx a).length=4 from rfl) (zrK hrd0) ?_
 clear hO
 intro H hO
 replace hO:=hO.set_r
 replace hO:St H (((Γ0++[(p13,⟨zpx a,true⟩)])++PW ps pj L t jn m)++QW qs qj M t jn m):=hO.perm (by classical exact List.perm_iff_count.2 fun _=>by simp only[List.count_append,List.count_nil,List.set_cons_zero]; omega)
 have hactr:RdActs (Γ0++[(p13,(⟨zpx a,true⟩:Blk))]) actsv acts:=ls.actr.app
 have hrd:a.Rd (Γ0++[(p13,(⟨zpx a,true⟩:Blk))]):=hrd0.app
 obtain⟨j4,hj4⟩:=ls.fj
 have hj4':(Γ0++[(p13,(⟨zpx a,true⟩:Blk))])[j4]?=some (p4,⟨tbC first,true⟩):=zwa hj4
 obtain⟨Γ1,hΓ1⟩:∃ Γ1,Γ1=Γ0++[(p13,(⟨zpx a,true⟩:Blk))]:=⟨_,rfl⟩
 have hp13:Γ1[Γ0.length+0]?=some (p13,⟨zpx a,true⟩):=by rw[hΓ1]; exact zqa rfl
 rw[← hΓ1] at hO hactr hrd hj4'
 clear hrd0 hΓ1 hj4
 have hown:=ls.own
 have hrok:=ls.rok
 have hw:=ls.w
 have hLp:=ls.hL
 have hMp:=ls.hM
 clear ls
 refine zxa (fun l' H'=>l'=[ptr p4 0,.bool false,ptr pm 0,ptr qm 0,ptr ps 0,ptr qs 0,ptr p13 0,actsv,int acts.length,int y]∧H'=H∧a.chs.length≤20) ?_ ?_
 ·refine zaa zfa ?_
  refine zha hO (Γ0.length+0) (zwa (zwa hp13)) (v:=a.vc) rfl ?_
  refine zAa (by rw[hrd.c.rd.1]) ?_
  refine zaa zZb ?_
  refine zia (fun h4=>?_) (fun h4=>?_)
  ·refine zaa (zxb h4) ?_
   refine zxe rfl ?_
   exact hr _
  refine zaa zfa ?_
  refine zha hO (Γ0.length+0) (zwa (zwa hp13)) (v:=a.vk) rfl ?_
  refine zAa hrd.k.rd.lenSl ?_
  refine zaa zZb ?_
  refine zaa (zEb h4) ?_
  refine zia (fun h5=>?_) (fun h5=>?_)
  ·exact hr _
  ·exact⟨rfl,rfl,by omega⟩
 rintro l' H' ⟨rfl,rfl,hlen⟩
 try simp only[zja,zka]
 refine zxa (fun l' H'=>∃ (f:Int) (t:Tb) (jn:Jn) (m:Mp) (L:Mloc) (M:Rm),l'=[ptr p4 0,.bool false,ptr pm 0,ptr qm 0,ptr ps 0,ptr qs 0,ptr p13 0,int f,int f,actsv,int acts.length,int y]∧St H' ((Γ1++PW ps pj L t jn m)++QW qs qj M t jn m)∧Mown L m∧RMok M m∧WI A B (y+1) t jn m∧L.pm=pm∧M.pm=qm) ?_ ?_
 ·refine zaa zfa ?_
  refine zha hO (Γ0.length+0) (zwa (zwa hp13)) (v:=int a.kind) rfl ?_
  refine zaa zYa ?_
  refine zia (fun hk0=>?_) (fun hk0=>?_)
  ·-- Do
   have hup:TW (zab t a.chs).1:=zkx hw.tw hrd.cb
   refine zaa zfa ?_
   refine zha hO (Γ0.length+0) (zwa (zwa hp13)) (v:=a.vc) rfl ?_
   refine ziK (N:=5000 * y) hw.ok hw.jok hw.sm (by omega) hrd.c.rd.app (by omega) (fun c h=>(hrd.cb c h).2) (fun _=>hup.f) (zzC hrd.cb) (fun _=>zbG hup.a hup.b) (PW.out hO) hown ?_
   clear hO
   intro H L2 he hO hown2
   replace hO:=PW.inn hO
   refine zaa zfa ?_
   refine zha hO (Γ0.length+0) (zwa (zwa hp13)) (v:=a.vc) rfl ?_
   refine zCD (N:=5000 * y) hw.ok hw.jok hw.has hw.sm (by omega) hrd.c.rd.app (by omega) (fun c h=>(hrd.cb c h).2) (fun _=>hup.f) (zzC hrd.cb) (fun _=>zbG hup.a hup.b) hrok (QW.out hO) ?_
   clear hO
   intro H M2 he2 hO hrok2
   replace hO:=QW.inn hO
   exact⟨_,_,_,_,L2,M2,rfl,hO,hown2,hrok2,zCN hw hrd.cb,by rw[← hLp]; exact he.m,by rw[← hMp]; exact he2.m⟩
  refine zaa zYa ?_
  refine zia (fun hk2=>?_) (fun hk2=>?_)
  ·-- Budget
   have hO2:St H' (((Γ1++QW qs qj M t jn m)++(SB ps pj t++JB pj L.pm jn))++MW L m):=hO.perm (by classical exact List.perm_iff_count.2 fun _=>by simp only[List.count_append,List.count_nil,List.set_cons_zero]; omega)
   rw[← hLp]
   refine zlq hO2 ?_
   refine zaa zfa ?_
   refine zha hO (Γ0.length+0) (zwa (zwa hp13)) (v:=int a.n) rfl ?_
   refine⟨zlb hO (Γ0.length+0) (zwa (zwa hp13)) hO (Γ0.length+0) (zwa (zwa hp13)) (zzv hrd),?_⟩
   refine zqB (n:=a.n) hO2 ?_
   clear hO hO2
   intro H hO
   have hO2:St H (((Γ1++PW ps pj L t jn { m with d:=m.d.limit a.n })++(SB qs qj t++QB qj M.pm jn))++RM M m):=hO.perm (by classical exact List.perm_iff_count.2 fun _=>by simp only[List.count_append,List.count_nil,List.set_cons_zero]; omega)
   clear hO
   rw[← hMp]
   refine zaa zga ?_
   refine zaa zfa ?_
   refine zha hO2 (_+0) (zqa rfl) (v:=ptr M.r.pd 0) rfl ?_
   refine zaa zfa ?_
   refine zha hO2 (Γ0.length+0) (zwa (zwa (zwa hp13))) (v:=int a.n) rfl ?_
   refine zvG (n:=a.n) hrok hO2 ?_
   clear hO2
   intro H M2 he hO hrok2
   rw[← he.m] at hO
   exact⟨0,t,jn,{ m with d:=m.d.limit a.n },L,M2,rfl,hO.perm (by classical exact List.perm_iff_count.2 fun _=>by simp only[List.count_append,List.count_nil,List.set_cons_zero]; omega),⟨hown.d,hown.o⟩,hrok2,(zsK hw hrd.n).mono (by omega),rfl,he.m⟩
  refine zaa zYa ?_
  refine zia (fun hk3=>?_) (fun hk3=>?_)
  ·-- Restart
   have hO2:St H' (((Γ1++QW qs qj M t jn m)++(SB ps pj t++JB pj L.pm jn))++MW L m):=hO.perm (by classical exact List.perm_iff_count.2 fun _=>by simp only[List.count_append,List.count_nil,List.set_cons_zero]; omega)
   rw[← hLp]
   refine zlq hO2 ?_
   refine zaa zfa ?_
   refine zha hO (Γ0.length+0) (zwa (zwa hp13)) (v:=a.vk) rfl ?_
   refine⟨zlb hO (Γ0.length+0) (zwa (zwa hp13)) hO (Γ0.length+0) (zwa (zwa hp13)) (zzv hrd),?_⟩
   refine zox hw.ok.d (Nat.le_trans hw.sm.1 (by omega)) hO2 hown hrd.k.rd.app.app hrd.kb ?_
   clear hO hO2
   intro H hO hown2
   have hO2:St H (((Γ1++PW ps pj { L with vd:=zya } t jn { m with d:=m.d.restart a.kept })++(SB qs qj t++QB qj M.pm jn))++RM M m):=hO.perm (by classical exact List.perm_iff_count.2 fun _=>by simp only[List.count_append,List.count_nil,List.set_cons_zero]; omega)
   clear hO
   rw[← hMp]
   refine zaa zga ?_
   refine zaa zfa ?_
   refine zha hO2 (_+0) (zqa rfl) (v:=ptr M.r.pd 0) rfl ?_
   refine zaa zfa ?_
   refine zha hO2 (Γ0.length+0) (zwa (zwa (zwa hp13))) (v:=a.vk) rfl ?_
   refine zsB hw.ok.d (Nat.le_trans hw.sm.1 (by omega)) hrok hO2 hrd.k.rd.app.app hrd.kb ?_
   clear hO2
   intro H M2 he hO hrok2
   rw[← he.m] at hO
   exact⟨0,t,jn,{ m with d:=m.d.restart a.kept },{ L with vd:=zya },M2,rfl,hO.perm (by classical exact List.perm_iff_count.2 fun _=>by simp only[List.count_append,List.count_nil,List.set_cons_zero]; omega),hown2,hrok2,(ztG a.kept hw).mono (by omega),rfl,he.m⟩
  ·exact⟨0,t,jn,m,L,M,rfl,hO,hown,hrok,hw.mono (by omega),hLp,hMp⟩
 clear hO hown hrok hw hLp hMp t jn m L M
 rintro l' H ⟨f,t,jn,m,L,M,rfl,hO,hown,hrok,hw,hLp,hMp⟩
 try simp only[zja,zka]
 refine zxa (fun l' H'=>∃ (Γ2:List (Nat × Blk)) (ps pj qs qj:Nat) (t:Tb) (jn:Jn),l'=[ptr p4 0,.bool false,ptr pm 0,ptr qm 0,ptr ps 0,ptr qs 0,int f,int f,actsv,int acts.length,int y]∧St H' ((Γ2++PW ps pj L t jn m)++QW qs qj M t jn m)∧RdActs Γ2 actsv acts∧(∃ j:Nat,Γ2[j]?=some (p4,(⟨tbC first,true⟩:Blk)))∧WI A B (y+1) t jn m) ?_ ?_
 ·refine zxa (fun l' H'=>∃ b:Bool,l'=[ptr p4 0,.bool false,ptr pm 0,ptr qm 0,ptr ps 0,ptr qs 0,int f,int f,actsv,int acts.length,int y,.bool b]∧H'=H) ?_ ?_
  ·refine zaa zfa ?_
   refine zha hO (Γ0.length+0) (zwa (zwa hp13)) (v:=int a.kind) rfl ?_
   refine zaa zYa ?_
   refine zia (fun hk1=>?_) (fun hk1=>?_)
   ·refine zaa (zxb hk1) ?_
    exact⟨true,rfl,rfl⟩
   ·refine zaa zfa ?_
    refine zha hO (Γ0.length+0) (zwa (zwa hp13)) (v:=int a.kind) rfl ?_
    refine zaa zYa ?_
    refine zaa (zEb hk1) ?_
    exact⟨_,rfl,rfl⟩
  rintro l' H' ⟨b,rfl,rfl⟩
  try simp only[zja,zka]
  cases b with
  | false=>
   refine zUd rfl ?_
   exact⟨Γ1,ps,pj,qs,qj,t,jn,rfl,hO,hactr,⟨j4,hj4'⟩,hw⟩
  | true=>
   refine zxe rfl ?_
   have hsl:=zez hw.two hA hB
   have hsb:=zcx (a:=0) (b:=1) hw.bd
   have hsx:=zXI hw.two hA hB hw.bd
   refine zma hO j4 (zwa (zwa hj4')) rfl (by omega) ?_
   have hO2:St H' (((Γ1++QW qs qj M t jn m)++(SB ps pj t++JB pj L.pm jn))++MW L m):=hO.perm (by classical exact List.perm_iff_count.2 fun _=>by simp only[List.count_append,List.count_nil,List.set_cons_zero]; omega)
   clear hO
   rw[← hLp]
   refine zvv hw.ok (zgg hw.bd) (zgg hw.bd) hsb (by omega) hsx hf hO2 ?_
   clear hO2
   intro H Δ ps' pj' hO
   refine zaa zEj ?_
   refine zaa zFj ?_
   refine zma hO j4 (zwa (zwa (zwa (zwa (zwa (zwa hj4')))))) rfl (by omega) ?_
   have hO2:St H ((((((Γ1++(SB ps pj t++JB pj L.pm jn))++Δ)++(SB qs qj t++QB qj M.pm jn)))++PW ps' pj' L (zfd (zlc m 0 1).bodies first) (zxk m 0 1) m)++RM M m):=hO.perm (by classical exact List.perm_iff_count.2 fun _=>by simp only[List.count_append,List.count_nil,List.set_cons_zero]; omega)
   clear hO
   rw[← hMp]
   refine ztq hw.ok (hw.sm.mono (by omega)) (zgg hw.bd) (zgg hw.bd) hsb (by omega) hsx hrok hO2 ?_
   clear hO2
   intro H Δ2 qs' qj' hO
   refine zaa (zVL _ _) ?_
   refine zUd rfl ?_
   have hw2:=zWI hw htw
   generalize zfd (zlc m 0 1).bodies first=t' at *
   generalize zxk m 0 1=jn' at *
   exact⟨Γ1++((SB ps pj t++JB pj L.pm jn)++(Δ++((SB qs qj t++QB qj M.pm jn)++Δ2))),ps',pj',qs',qj',t',jn',rfl,hO.perm (by classical exact List.perm_iff_count.2 fun _=>by simp only[List.count_append,List.count_nil,List.set_cons_zero]; omega),hactr.app,⟨j4,zwa hj4'⟩,hw2⟩
 clear hO hw hp13 hactr hrd hj4' Γ1 t jn ps pj qs qj
 rintro l' H ⟨Γ2,ps,pj,qs,qj,t,jn,rfl,hO,hactr,⟨j4,hj4⟩,hw⟩
 try simp only[zja,zka]
 refine zaa zJa ?_
 have hff:¬ (f≠f):=fun h=>h rfl
 refine zrp hff ?_
 refine zeB hO (j:=Γ2.length+0) (zwa (zqa rfl)) ?_
 intro H2 hO2
 refine zaa zga ?_
 refine zaa zfa ?_
 refine zBa hO2 (_+0) (zqa rfl) (show _=tbC t from rfl) rfl (by omega) ?_
 refine⟨zlb hO (_+0) (zqa rfl) hO2 (_+0) (zqa rfl) rfl,?_⟩
 clear hO
 refine zaa (zSM rfl _) ?_
 refine zaa (zEb hff) ?_
 refine zUd rfl ?_
 refine zxD hw.ok hw.jok (PW.out hO2) ?_
 refine zaa zga ?_
 refine zaa zfa ?_
 refine zha hO2 (_+0) (zqa rfl) (v:=ptr qj 0) rfl ?_
 refine⟨zlb hO2 (_+0) (zqa rfl) hO2 (_+0) (zqa rfl) rfl,?_⟩
 refine zDt hw.ok hw.jok hw.has (QW.out hO2) ?_
 refine zaa zJa ?_
 have hll:¬ (jn.left m≠jn.left m):=fun h=>h rfl
 refine zaa zRa ?_
 refine zrp hll ?_
 have hO:St H2 (((Γ2++QW qs qj M t jn m)++(SB ps pj t++JB pj L.pm jn))++MW L m):=hO2.perm (by classical exact List.perm_iff_count.2 fun _=>by simp only[List.count_append,List.count_nil,List.set_cons_zero]; omega)
 clear hO2
 rw[← hLp]
 refine zwF hO hown ?_
 clear hO
 intro H hO hown2
 rw[← hMp]
 have hO2:St H ((((Γ2++zFa L.vo (zQh m.ops))++PW ps pj { L with vo:=zya } t jn { m with ops:=[] })++(SB qs qj t++QB qj M.pm jn))++RM M m):=hO.perm (by classical exact List.perm_iff_count.2 fun _=>by simp only[List.count_append,List.count_nil,List.set_cons_zero]; omega)
 clear hO
 refine zmB hrok hO2 ?_
 clear hO2
 intro H hO hrok2
 have hO2:St H ((((Γ2++zFa L.vo (zQh m.ops))++zFa M.vo (zQh m.ops))++PW ps pj { L with vo:=zya } t jn { m with ops:=[] })++QW qs qj { M with vo:=zya } t jn { m with ops:=[] }):=hO.perm (by classical exact List.perm_iff_count.2 fun _=>by simp only[List.count_append,List.count_nil,List.set_cons_zero]; omega)
 clear hO
 refine znB (l:=m.ops) (i1:=Γ2.length+0) (i2:=(Γ2++zFa L.vo (zQh m.ops)).length+0) hO2 hown.o hrok.o (fun hne=>?_) (fun hne=>?_) (Nat.le_trans hw.sm.2 (by omega)) ?_
 ·obtain⟨p,c,h1,h2⟩:=zuG (Γ:=Γ2) hown.o rfl hne
  exact⟨p,c,h1,zwa (zwa (zwa h2))⟩
 ·obtain⟨p,c,h1,h2⟩:=zuG (Γ:=Γ2++zFa L.vo (zQh m.ops)) hrok.o rfl hne
  exact⟨p,c,h1,zwa (zwa h2)⟩
 refine zaa zoc ?_
 refine zaa (zEb hll) ?_
 refine zUd rfl ?_
 refine zaa hadd ?_
 exact⟨_,by omega,y+1,(Γ2++zFa L.vo (zQh m.ops))++zFa M.vo (zQh m.ops),ps,pj,qs,qj,t,jn,_,_,_,by omega,rfl,rfl,hO2,⟨hown2,hrok2,hactr.app.app,⟨j4,zwa (zwa hj4)⟩,zVM hw,rfl,rfl⟩⟩
end J
set_option maxRecDepth 100000
namespace J
open Go Go.Ab
variable{H:Heap}{Γ Γ0 Γ2 Δ G:List (Nat × Blk)}{K:VH}{v w x:Value}{xs ys bs body:List Int}{j p A B k:Nat}{e:Int}{first:Tb}
theorem zXM(a b:Int)(H:Heap):(zpa P 38 2).f [(0,int a),(1,int b)] H=some (sl H.next 0 2 3,H.push [int a,int b]):=by kernel_rfl
theorem zYM(p q:Nat):(zDa P 41).f [(0,ptr p 0),(1,sl q 0 2 3)]=some (agg [ptr p 0,sl q 0 2 3,int 0,zya]):=by kernel_rfl
theorem zmw(t:TypeId)(c:Bool):(zta P .eql t c).f (zEm xs) (zEm xs)=some (.bool true):=by
 rw[str_eq]; simp
theorem ztK{A B:Nat}{R:Rl}(h:Rok R (Dv.new 60 10000)){pm q:Nat}:RMok ⟨pm,q,zya,R⟩ (mt A B):=⟨h,.inl ⟨rfl,rfl,rfl⟩,rfl⟩
set_option maxHeartbeats 8000000 in
theorem truns_main{acts:List Act}{b0 b1:Int}(hO:St H G)(htw:TW first)(hr:RdActs G w acts):wCall P zwf [agg [int b0,int b1],agg (tbC first),w] H fun v _=>v=.bool true:=by
 apply zdn; unfold zXj
 refine zCa hO ?_
 clear hO
 intro p3 H hO
 refine zCa hO ?_
 clear hO
 intro p4 H hO
 replace hO:St H ((G++[(p3,⟨[int b0,int b1],true⟩)])++[(p4,⟨tbC first,true⟩)]):=hO
 have i3:((G++[(p3,(⟨[int b0,int b1],true⟩:Blk))])++[(p4,⟨tbC first,true⟩)])[G.length+0]?=some (p3,⟨[int b0,int b1],true⟩):=zwa (zqa rfl)
 refine zWj ?_
 refine zaa zoc ?_
 refine zUd rfl ?_
 refine zxa (fun l' H'=>l'=[w,ptr p3 0,ptr p4 0,.bool false]∧H'=H∧1≤b0∧b0≤20∧1≤b1∧b1≤20∧acts.length≤40) ?_ ?_
 ·refine zaa (zkb (by omega) (by omega)) ?_
  refine zha hO _ i3 (v:=int b0) rfl ?_
  refine zaa zKa ?_
  refine zia (fun h1=>?_) (fun h1=>?_)
  ·rw[decide_eq_true h1]
   repeat (first|refine oi ?_|refine wt ?_)
   rfl
  rw[decide_eq_false h1]
  refine zaa (zkb (by omega) (by omega)) ?_
  refine zha hO _ i3 (v:=int b1) rfl ?_
  refine zaa zKa ?_
  refine zaa zRa ?_
  refine zia (fun h2=>?_) (fun h2=>?_)
  ·rw[decide_eq_true h2]
   repeat (first|refine oi ?_|refine wt ?_)
   rfl
  rw[decide_eq_false h2]
  refine zaa (zkb (by omega) (by omega)) ?_
  refine zha hO _ i3 (v:=int b0) rfl ?_
  refine zaa zZb ?_
  refine zaa zRa ?_
  refine zia (fun h3=>?_) (fun h3=>?_)
  ·rw[decide_eq_true h3]
   repeat (first|refine oi ?_|refine wt ?_)
   rfl
  rw[decide_eq_false h3]
  refine zaa (zkb (by omega) (by omega)) ?_
  refine zha hO _ i3 (v:=int b1) rfl ?_
  refine zaa zZb ?_
  refine zaa zRa ?_
  refine zia (fun h4=>?_) (fun h4=>?_)
  ·rw[decide_eq_true h4]
   repeat (first|refine oi ?_|refine wt ?_)
   rfl
  rw[decide_eq_false h4]
  refine zAa hr.lenSl ?_
  refine zaa zZb ?_
  refine zaa zRa ?_
  refine zia (fun h5=>?_) (fun h5=>?_)
  ·rfl
  exact⟨rfl,rfl,by omega,by omega,by omega,by omega,by omega⟩
 rintro l' H' ⟨rfl,rfl,h1,h2,h3,h4,h5⟩
 try simp only[zja,zka]
 obtain⟨A,rfl⟩:∃ A:Nat,b0=A:=⟨b0.toNat,by omega⟩
 obtain⟨B,rfl⟩:∃ B:Nat,b1=B:=⟨b1.toNat,by omega⟩
 refine zma hO _ i3 rfl (by omega) ?_
 have hs:A+B≤60:=by omega
 refine zDD hO (by omega) (by omega) hs ?_
 clear hO
 intro H L hO hown
 have hi:∀ {Δ:List (Nat × Blk)},(((G++[(p3,(⟨[int A,int B],true⟩:Blk))])++[(p4,⟨tbC first,true⟩)])++Δ)[G.length+0]?=some (p3,⟨[int A,int B],true⟩):=zwa i3
 obtain⟨G1,hG1⟩:∃ G1,G1=(G++[(p3,(⟨[int A,int B],true⟩:Blk))])++[(p4,⟨tbC first,true⟩)]:=⟨_,rfl⟩
 have hi4:G1[(G++[(p3,(⟨[int A,int B],true⟩:Blk))]).length+0]?=some (p4,⟨tbC first,true⟩):=by rw[hG1]; exact zqa rfl
 have hr1:RdActs G1 w acts:=by rw[hG1]; exact hr.app.app
 rw[← hG1] at hO hi i3
 generalize (G++[(p3,(⟨[int A,int B],true⟩:Blk))]).length+0=j4 at hi4
 generalize hj3:G.length+0=j3 at hi i3
 clear hG1 hj3 hr
 have hOa:=hO
 refine zzD (n:=60) (w:=10000) (by omega) (by omega) hO ?_
 clear hO
 intro H R hO hR
 replace hO:St H ((G1++MW L (mt A B))++RW R (Dv.new 60 10000)):=hO
 refine zaa (zkb (by omega) (by omega)) ?_
 refine zha hO j3 (zwa hi) (v:=int A) rfl ?_
 refine⟨zlb hOa j3 hi hO j3 (zwa hi) rfl,?_⟩
 refine zaa (zkb (by omega) (by omega)) ?_
 refine zha hO j3 (zwa hi) (v:=int B) rfl ?_
 refine⟨zlb hOa j3 hi hO j3 (zwa hi) rfl,?_⟩
 clear hOa
 refine zEa hO (zXM _ _ _) ?_
 clear hO
 intro q3 H hO
 refine zaa (zYM _ _) ?_
 refine zCa hO ?_
 clear hO
 intro pw H hO
 replace hO:St H ((((G1++MW L (mt A B))++RW R (Dv.new 60 10000))++[(q3,⟨[int A,int B],true⟩)])++[(pw,⟨[ptr R.pd 0,sl q3 0 2 3,int 0,zya],true⟩)]):=hO
 have hO2:St H ((G1++MW L (mt A B))++(([(pw,⟨[ptr R.pd 0,sl q3 0 2 3,int 0,zya],true⟩)]++[(q3,⟨[int A,int B],true⟩)])++([]++RW R (Dv.new 60 10000)))):=hO.perm (by classical exact List.perm_iff_count.2 fun _=>by simp only[List.count_append,List.count_nil,List.set_cons_zero]; omega)
 replace hO2:St H ((G1++MW L (mt A B))++RM ⟨pw,q3,zya,R⟩ (mt A B)):=hO2
 clear hO
 have hM0:RMok ⟨pw,q3,zya,R⟩ (mt A B):=ztK hR
 have hpw:(⟨pw,q3,zya,R⟩:Rm).pm=pw:=rfl
 rw[← hpw]
 generalize (⟨pw,q3,zya,R⟩:Rm)=M at hO2 hM0
 clear hpw hR i3 hi R
 refine zma hO2 j4 (zwa (zwa hi4)) rfl (by omega) ?_
 by_cases hf:TRight first
 rotate_left
 ·refine zlI hf hO2 ?_
  intro H3 hO3
  refine zaa zEj ?_
  refine zaa zFj ?_
  refine zma hO3 j4 (zwa (zwa hi4)) rfl (by omega) ?_
  refine zXc hO3 ?_
  intro H4 hO4
  rw[decide_eq_false hf]
  refine zaa zoc ?_
  refine zxe rfl ?_
  refine zaa zWL ?_
  refine zxe rfl ?_
  refine zaa zYa ?_
  refine zaa zQb ?_
  rfl
 have hw0:=zWM (first:=first) (A:=A) (B:=B) (by omega) (by omega) hs htw
 have hw:=zWI hw0 htw
 have hA:A≤30:=by omega
 have hB:B≤30:=by omega
 have hsl:=zez hw.two hA hB
 have hsb:=zcx (a:=0) (b:=1) hw.bd
 have hsx:=zXI hw.two hA hB hw.bd
 have hO3:St H ((G1++RM M (mt A B))++MW L (mt A B)):=hO2.perm (by classical exact List.perm_iff_count.2 fun _=>by simp only[List.count_append,List.count_nil,List.set_cons_zero]; omega)
 clear hO2
 refine zvv hw.ok (zgg hw.bd) (zgg hw.bd) hsb (by omega) hsx hf hO3 ?_
 clear hO3
 intro H Δ ps pj hO
 refine zaa zEj ?_
 refine zaa zFj ?_
 refine zma hO j4 (zwa (zwa (zwa (zwa (zwa hi4))))) rfl (by omega) ?_
 refine zXc hO ?_
 clear hO
 intro H hO
 rw[decide_eq_true hf]
 refine zaa zoc ?_
 refine zUd rfl ?_
 refine zxa (fun l' H'=>l'=[w,ptr p4 0,.bool false,ptr L.pm 0,ptr M.pm 0,ptr ps 0]∧H'=H) ?_ ?_
 ·refine zaa (zVL _ _) ?_
  refine zUd rfl ?_
  refine zaa zJa ?_
  refine zaa zRa ?_
  refine zUd rfl ?_
  exact⟨rfl,rfl⟩
 rintro l' H' ⟨rfl,rfl⟩
 try simp only[zja,zka]
 refine zma hO j4 (zwa (zwa (zwa (zwa (zwa hi4))))) rfl (by omega) ?_
 have hO2:St H' (((G1++Δ)++PW ps pj L (zfd (zlc (mt A B) 0 1).bodies first) (zxk (mt A B) 0 1) (mt A B))++RM M (mt A B)):=hO.perm (by classical exact List.perm_iff_count.2 fun _=>by simp only[List.count_append,List.count_nil,List.set_cons_zero]; omega)
 clear hO
 refine ztq hw.ok (hw.sm.mono (by omega)) (zgg hw.bd) (zgg hw.bd) hsb (by omega) hsx hM0 hO2 ?_
 clear hO2
 intro H Δ2 qs qj hO
 refine zAa hr1.lenSl ?_
 generalize zfd (zlc (mt A B) 0 1).bodies first=t at hO hw
 generalize zxk (mt A B) 0 1=jn at hO hw
 generalize mt A B=m at hO hw hown hM0
 have hO2:St H (((G1++(Δ++Δ2))++PW ps pj L t jn m)++QW qs qj M t jn m):=hO.perm (by classical exact List.perm_iff_count.2 fun _=>by simp only[List.count_append,List.count_nil,List.set_cons_zero]; omega)
 clear hO
 refine zmI hA hB hf htw rfl h5 hO2 ⟨hown,hM0,hr1.app,⟨j4,zwa hi4⟩,hw,rfl,rfl⟩ ?_ ?_
 ·clear hO2 hown hM0 hw hw0
  intro H Γ0 ps pj qs qj t jn m L M hO ls
  refine zeb rfl ?_
  try simp only[zja,zka]
  obtain⟨hown,hrok,_,_,hw,hLp,hMp⟩:=ls
  rw[← hLp,← hMp]
  clear hLp hMp hsl hsb hsx
  have hsm:m.Sm 1000000:=hw.sm.mono (by omega)
  have hO2:St H ((((Γ0++SB ps pj t)++JB pj L.pm jn)++QW qs qj M t jn m)++MW L m):=hO.perm (by classical exact List.perm_iff_count.2 fun _=>by simp only[List.count_append,List.count_nil,List.set_cons_zero]; omega)
  clear hO
  refine zTy hw.ok hO2 ?_
  clear hO2
  intro H va ca hO hva
  refine zAa (RdB.str hO hva.rd.app') ?_
  have hO2:St H (((((((Γ0++SB ps pj t)++JB pj L.pm jn)++MW L m)++(SB qs qj t++QB qj M.pm jn))++zFa va ca))++RM M m):=hO.perm (by classical exact List.perm_iff_count.2 fun _=>by simp only[List.count_append,List.count_nil,List.set_cons_zero]; omega)
  clear hO
  refine zfp hw.ok hsm hrok hO2 ?_
  intro H3 vb cb hO3 hvb
  refine⟨Smv.own hva H H3 (RM M m) (RM M m++zFa vb cb) hO2 (by rw[← List.append_assoc]; exact hO3),?_⟩
  clear hO2
  refine zAa (RdB.str hO3 hvb.rd.app') ?_
  refine zaa (zmw _ _) ?_
  refine zxe rfl ?_
  have hO2:St H3 (((((Γ0++SB ps pj t)++JB pj L.pm jn)++QW qs qj M t jn m)++(zFa va ca++zFa vb cb))++MW L m):=hO3.perm (by classical exact List.perm_iff_count.2 fun _=>by simp only[List.count_append,List.count_nil,List.set_cons_zero]; omega)
  clear hO3
  refine zTy hw.ok hO2 ?_
  clear hO2
  intro H vc cc hO hvc
  refine zAa (RdB.str hO hvc.rd.app') ?_
  have hO2:St H (((((((Γ0++SB ps pj t)++JB pj L.pm jn)++MW L m)++((SB qs qj t++QB qj M.pm jn)++(zFa va ca++zFa vb cb)))++zFa vc cc))++RM M m):=hO.perm (by classical exact List.perm_iff_count.2 fun _=>by simp only[List.count_append,List.count_nil,List.set_cons_zero]; omega)
  clear hO
  refine zfp hw.ok hsm hrok hO2 ?_
  intro H4 vd cd hO3 hvd
  refine⟨Smv.own hvc H H4 (RM M m) (RM M m++zFa vd cd) hO2 (by rw[← List.append_assoc]; exact hO3),?_⟩
  refine zAa (RdB.str hO3 hvd.rd.app') ?_
  refine zaa (zmw _ _) ?_
  refine zaa zQb ?_
  rfl
 ·intro H'
  first|rfl|trivial
end J
set_option maxRecDepth 100000
namespace J
open Go Go.Ab
variable{H:Heap}{Γ G:List (Nat × Blk)}{K:VH}{v w x:Value}{xs ys bs:List Int}{j p:Nat}{e:Int}{l:List Ch}{t:Tb}
theorem zGt{ts:List TypeId}{N:Nat}{c:List Value}{b:List (List Value)}(h:ShpL P (27::ts) N c b):∃ (s:Sl) (c':List Value),c=slC s++c'∧(∀ i,0≤s.dg i∧s.dg i≤255)∧ShpL P ts N c' b:=by
 have h0:=zcj Go.Proofs.Tryz.underlying27 h
 have h0:ShpL P (3::3::23::3::25::ts) N c b:=h0
 obtain⟨x1,c1,rfl,_,h1⟩:=zvc (k:=.i64) Go.Proofs.Tryz.underlying3 h0
 obtain⟨x2,c2,rfl,_,h2⟩:=zvc (k:=.i64) Go.Proofs.Tryz.underlying3 h1
 obtain⟨x3,c3,rfl,_,h3⟩:=zvc (k:=.u64) Go.Proofs.Tryz.underlying23 h2
 obtain⟨x4,c4,rfl,_,h4⟩:=zvc (k:=.i64) Go.Proofs.Tryz.underlying3 h3
 have h5:=zdp Go.Proofs.Tryz.underlying25 h4
 have H:∀ (n N:Nat) (c:List Value) (b:List (List Value)),ShpL P (List.replicate n 5++ts) N c b→∃ (xs:List Int) (c':List Value),xs.length=n∧c=xs.map (Value.int .u8)++c'∧By xs∧ShpL P ts N c' b:=by
  intro n
  induction n with
  | zero=>intro N c b h; exact⟨[],c,rfl,rfl,fun x hx=>(by cases hx),h⟩
  | succ n ih=>
   intro N c b h
   obtain⟨x,c',rfl,w,h1⟩:=zvc (k:=.u8) Go.Proofs.Tryz.underlying5 (show ShpL P (5::(List.replicate n 5++ts)) N c b from h)
   obtain⟨xs,c'',hl,rfl,hb,h2⟩:=ih N _ _ h1
   refine⟨x::xs,c'',by simp[hl],rfl,?_,h2⟩
   intro y hy
   rcases List.mem_cons.1 hy with rfl|hy
   ·exact wf_u8 w
   ·exact hb y hy
 obtain⟨xs,c',hl,rfl,hb,h6⟩:=H _ _ _ _ h5
 refine⟨⟨x1,x2,x3,x4,fun i=>xs.getD i 0⟩,c',?_,?_,h6⟩
 ·rw[zEI xs hl]; rfl
 ·intro i
  show 0≤xs.getD i 0∧xs.getD i 0≤255
  rw[List.getD_eq_getElem?_getD]
  by_cases hi:i < xs.length
  ·rw[List.getElem?_eq_getElem hi]; exact hb _ (List.getElem_mem hi)
  ·rw[List.getElem?_eq_none (by omega)]; decide
theorem arg_tableB{ts:List TypeId}{N:Nat}{av:List Value}{b:List (List Value)}(h:ArgS P (30::ts) N av b):∃ (t:Tb) (vs:List Value),av=agg (tbC t)::vs∧0≤t.flo∧(∀ i,0≤t.a.dg i∧t.a.dg i≤255)∧(∀ i,0≤t.b.dg i∧t.b.dg i≤255)∧ArgS P ts N vs b:=by
 obtain⟨cs,vs,b1,b2,rfl,rfl,h1,h2⟩:=zYE h (.inl ⟨_,Go.Proofs.Tryz.underlying30⟩)
 have h0:=zcj Go.Proofs.Tryz.underlying30 h1
 have h0:ShpL P (28::3::3::23::[]) N cs b1:=h0
 have h1:=zdp Go.Proofs.Tryz.underlying28 h0
 have h1:ShpL P (27::27::3::3::23::[]) N cs b1:=h1
 obtain⟨a,c1,e1,ha,h2'⟩:=zGt h1
 obtain⟨s,c2,e2,hb,h3⟩:=zGt h2'
 obtain⟨x1,c3,e3,_,h4⟩:=zvc (k:=.i64) Go.Proofs.Tryz.underlying3 h3
 obtain⟨x2,c4,e4,_,h5⟩:=zvc (k:=.i64) Go.Proofs.Tryz.underlying3 h4
 obtain⟨x3,c5,e5,w,h6⟩:=zvc (k:=.u64) Go.Proofs.Tryz.underlying23 h5
 obtain⟨rfl,rfl⟩:=zuA h6
 refine⟨⟨a,s,x1,x2,x3⟩,vs,?_,(wf_u64 w).1,ha,hb,by simpa using h2⟩
 rw[e1,e2,e3,e4,e5]; rfl
theorem zwG:∀ (n N:Nat) (c:List Value) (b:List (List Value)),ShpL P (List.replicate n 74) N c b→b=[]∧∃ l:List Ch,c=chs l∧l.length=n∧∀ c ∈ l,CBy c
 | 0,N,c,b,h=>by cases h; exact⟨rfl,[],rfl,rfl,by simp⟩
 | n+1,N,c,b,h=>by
  have h:ShpL P (74::List.replicate n 74) N c b:=h
  have h0:=zcj Go.Proofs.Tryz.underlying74 h
  have h0:ShpL P (3::3::3::27::23::List.replicate n 74) N c b:=h0
  obtain⟨x1,c1,e1,_,h1⟩:=zvc (k:=.i64) Go.Proofs.Tryz.underlying3 h0
  obtain⟨x2,c2,e2,_,h2⟩:=zvc (k:=.i64) Go.Proofs.Tryz.underlying3 h1
  obtain⟨x3,c3,e3,_,h3⟩:=zvc (k:=.i64) Go.Proofs.Tryz.underlying3 h2
  obtain⟨s,c4,e4,hs,h4⟩:=zGt h3
  obtain⟨x5,c5,e5,w,h5⟩:=zvc (k:=.u64) Go.Proofs.Tryz.underlying23 h4
  obtain⟨hb,l,e6,hl,hw⟩:=zwG n _ _ _ h5
  refine⟨hb,⟨x1,x2,x3,s,x5⟩::l,?_,by simp[hl],?_⟩
  ·rw[e1,e2,e3,e4,e5,e6]
   show _=chC ⟨x1,x2,x3,s,x5⟩++chs l
   simp[chC]
  ·intro c hc
   rcases List.mem_cons.1 hc with rfl|hc
   ·exact⟨hs,(wf_u64 w).1⟩
   ·exact hw c hc
theorem c8:P.cellsOf 5=1:=by kernel_rfl
theorem zxG{ts:List TypeId}{N:Nat}{c:List Value}{b:List (List Value)}(h:ShpL P (50::ts) N c b) :
  ∃ v xs c' b1 b2,c=v::c'∧b=b1++b2∧ArgB (zWB N b1) v xs∧By xs∧ShpL P ts (N+b1.length) c' b2:=by
 rcases zXE u46 h with⟨c',e1,h3⟩|⟨len,cells,c',bs,b',e1,eb1,hm,hl,h3,h4⟩
 ·exact⟨_,[],c',[],b,e1,rfl,.inl ⟨rfl,rfl⟩,fun x hx=>(by cases hx),h3⟩
 ·obtain⟨hb,xs,rfl,rfl,hw⟩:=zay (k:=.u8) Go.Proofs.Tryz.underlying5 _ _ _ _ h3
  subst hb
  subst eb1
  exact⟨_,xs,c',[by8 xs],b',e1,rfl,.inr ⟨N,0,rfl,rfl⟩,fun x hx=>wf_u8 (hw x hx),h4⟩
theorem znI{ts:List TypeId}{N:Nat}{c:List Value}{b:List (List Value)}(h:ShpL P (49::ts) N c b) :
  ∃ v l c' b1 b2,c=v::c'∧b=b1++b2∧ArgC (zWB N b1) v l∧(∀ c ∈ l,CBy c)∧ShpL P ts (N+b1.length) c' b2:=by
 have hu:P.underlying 49=some (.slice 74):=by kernel_rfl
 have hc:P.cellsOf 74=40:=by kernel_rfl
 rcases zXE hu h with⟨c',e1,h3⟩|⟨len,cells,c',bs,b',e1,eb1,hm,hl,h3,h4⟩
 ·exact⟨_,[],c',[],b,e1,rfl,.inl ⟨rfl,rfl⟩,by simp,h3⟩
 ·obtain⟨hb,l,rfl,rfl,hw⟩:=zwG _ _ _ _ h3
  subst hb
  subst eb1
  rw[hc] at e1
  exact⟨_,l,c',[chs l],b',e1,rfl,.inr ⟨N,0,rfl,rfl⟩,hw,h4⟩
theorem zuK{ts:List TypeId}{N:Nat}{c:List Value}{b:List (List Value)}(h:ShpL P (52::ts) N c b) :
  ∃ (a:Act) (c':List Value) (b1 b2:List (List Value)),c=zpx a++c'∧b=b1++b2∧a.Rd (zWB N b1)∧ShpL P ts (N+b1.length) c' b2:=by
 have h0:=zcj Go.Proofs.Tryz.underlying52 h
 have h0:ShpL P (3::3::49::50::ts) N c b:=h0
 obtain⟨x1,c1,rfl,_,h1⟩:=zvc (k:=.i64) Go.Proofs.Tryz.underlying3 h0
 obtain⟨x2,c2,rfl,w2,h2⟩:=zvc (k:=.i64) Go.Proofs.Tryz.underlying3 h1
 obtain⟨v,l,c3,b1,b2,rfl,eb,hv,hb,h3⟩:=znI h2
 obtain⟨v2,xs,c4,b3,b4,rfl,eb2,hv2,hb2,h4⟩:=zxG h3
 refine⟨⟨x1,x2,v,l,v2,xs⟩,c4,b1++b3,b4,rfl,by rw[eb,eb2,List.append_assoc],⟨?_,hb,?_,hb2,(wf_i64 w2).2⟩,?_⟩
 ·rw[argG_append]; exact hv.app
 ·rw[argG_append]; exact zUI hv2
 ·rw[List.length_append,← Nat.add_assoc]; exact h4
theorem zHC:∀ (n N:Nat) (c:List Value) (b:List (List Value)),ShpL P (List.replicate n 52) N c b→∃ l:List Act,c=l.flatMap zpx∧l.length=n∧∀ a ∈ l,a.Rd (zWB N b)
 | 0,N,c,b,h=>by cases h; exact⟨[],rfl,rfl,by simp⟩
 | n+1,N,c,b,h=>by
  have h:ShpL P (52::List.replicate n 52) N c b:=h
  obtain⟨a,c',b1,b2,e1,e2,hr,h2⟩:=zuK h
  obtain⟨l,e3,e4,hl⟩:=zHC n _ _ _ h2
  subst e1; subst e2; subst e3
  refine⟨a::l,rfl,by simp[e4],fun x hx=>?_⟩
  rw[argG_append]
  rcases List.mem_cons.1 hx with rfl|hx
  ·exact hr.app
  ·exact (hl x hx).app'
theorem arg_acts{ts:List TypeId}{N:Nat}{av:List Value}{b:List (List Value)}(h:ArgS P (31::ts) N av b) :
  ∃ v vs b1 b2 l,av=v::vs∧b=b1++b2∧RdActs (zWB N b1) v l∧ArgS P ts (N+b1.length) vs b2:=by
 have hu:P.underlying 31=some (.slice 52):=by kernel_rfl
 obtain⟨v,vs,b1,b2,e,eb,h1,h2⟩:=zBJ h (by rw[hu]; simp) (by rw[hu]; simp)
 rcases zXE hu h1 with⟨c',e1,h3⟩|⟨len,cells,c',bs,b',e1,eb1,hm,hl,h3,h4⟩
 ·cases e1
  exact⟨_,vs,b1,b2,[],e,eb,⟨.inl ⟨rfl,rfl⟩,fun a ha=>by cases ha⟩,h2⟩
 ·cases e1
  obtain⟨l,rfl,rfl,hr⟩:=zHC _ _ _ _ h3
  obtain⟨_,rfl⟩:=zuA h4
  refine⟨_,vs,b1,b2,l,e,eb,⟨.inr ⟨N,_,0,false,rfl,?_⟩,fun a ha=>?_⟩,h2⟩
  ·rw[eb1]; rfl
  ·rw[eb1,List.append_nil]
   exact (hr a ha).app' (Γ:=[(N,⟨l.flatMap zpx,false⟩)])
theorem arg_pair{ts:List TypeId}{N:Nat}{av:List Value}{b:List (List Value)}(h:ArgS P (22::ts) N av b):∃ b0 b1 vs,av=agg [int b0,int b1]::vs∧ArgS P ts N vs b:=by
 obtain⟨cs,vs,b1,b2,rfl,rfl,h1,h2⟩:=zYE h (.inr ⟨_,_,Go.Proofs.Tryz.underlying22⟩)
 have h3:=zdp Go.Proofs.Tryz.underlying22 h1
 have h3:ShpL P (3::3::[]) N cs b1:=h3
 obtain⟨x1,c1,rfl,_,h4⟩:=zvc (k:=.i64) Go.Proofs.Tryz.underlying3 h3
 obtain⟨x2,c2,rfl,_,h5⟩:=zvc (k:=.i64) Go.Proofs.Tryz.underlying3 h4
 obtain⟨rfl,rfl⟩:=zuA h5
 exact⟨x1,x2,vs,rfl,by simpa using h2⟩
end J
