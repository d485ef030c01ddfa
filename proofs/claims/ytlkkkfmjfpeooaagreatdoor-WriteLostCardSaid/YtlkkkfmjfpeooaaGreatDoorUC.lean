/- texts of the proof, one behind the other -/
import Derived.Test.YtlkkkfmjfpeooaaGreatDoorUB
set_option linter.unusedSimpArgs false
set_option linter.unusedSectionVars false
set_option linter.unusedVariables false
set_option maxRecDepth 100000
namespace J
open Go Go.Ab
variable{H:Heap}{Γ:List (Nat × Blk)}{K:VH}{v w x:Value}{xs ys:List Int}{j p:Nat}{e:Int}
abbrev agg(l:List Value):Value:=.agg l.toArray
theorem zta[lp:LpC]{p n:Nat}{cs:List Value}{w:Bool}{K:VH}(h:St H Γ)(i:Nat)(hi:Γ[i]?=some (p,⟨cs,w⟩))(hn:cs.length=n)(hp:0 < n)(hk:K (agg cs) H):opW (zpa n (ptr p 0) H) K:=by
 refine zMa h i hi (show _=cs from ?_) hn hp hk
 rw[List.drop_zero]
 exact List.take_of_length_le (Nat.le_of_eq hn)
theorem zra[lp:LpC]{p n:Nat}{cs new:List Value}{K:VH}(h:St H Γ)(i:Nat)(hi:Γ[i]?=some (p,⟨cs,true⟩))(hn:cs.length=n)(hl:new.length=n)(h1:new.all oneCell=true)
  (hk:∀ H',St H' (Γ.set i (p,⟨new,true⟩))→K undef H'):opW (zka n (ptr p 0) (agg new) H) K:=by
 refine zNc h i hi hl (by omega) h1 fun H' hO=>hk H' ?_
 have e:cs.take 0++(zya (agg new)++cs.drop (0+n))=new:=by
  rw[List.drop_of_length_le (by omega)]
  show []++(new++[])=new
  simp
 rw[e] at hO; exact hO
theorem zXt{a b:Value}:zxg 0 (.tuple [a,b].toArray)=some a:=rfl
theorem zYt{a b:Value}:zxg 1 (.tuple [a,b].toArray)=some b:=rfl
theorem St.mid[lp:LpC]{L R:List (Nat × Blk)}(h:St H ((Γ++L)++R)):St H (Γ++R):=h.sub (List.Sublist.append (List.sublist_append_left Γ L) (List.Sublist.refl R))
abbrev MadeB(Γ:List (Nat × Blk))(K:VH)(xs:List Int):Prop:=∀ (H':Heap) (v':Value) (cs':List Value),St H' (Γ++zhb v' cs')→OwnB v' xs cs'→K v' H'
theorem MadeB.none(h:MadeB Γ K [])(hO:St H Γ):K zBa H:=h H zBa [] (by show St H (Γ++[]); rw[List.append_nil]; exact hO) OwnB.nil
theorem zjH(H:Heap):(zoa P 22 0).f [] H=some (sl H.next 0 0 3,H.push []):=by kernel_rfl
def tkB(xs:List Int)(e:Int)(n:Nat):List Int:=if e=0∧n≤xs.length then xs.take n else []
def tkR(xs:List Int)(e:Int)(n:Nat):List Int:=if e=0∧n≤xs.length then xs.drop n else []
def tkE(xs:List Int)(e:Int)(n:Nat):Int:=if e=0∧n≤xs.length then 0 else if e=0 then 51 else e
abbrev Inh(v:Value)(xs:List Int)(v':Value)(ys:List Int):Prop:=∀ Γ':List (Nat × Blk),RdB Γ' v xs→RdB Γ' v' ys
theorem Inh.none{v:Value}{xs:List Int}:Inh v xs zBa []:=fun _ _=>.nil
theorem zzo(h:RdB Γ v xs){n:Nat}(hn:n≤xs.length):∃ v',zWa 1 v none (some (int n)) none=some v'∧Inh v xs v' (xs.take n):=by
 rcases h with⟨rfl,rfl⟩|⟨p,o,c,rfl,hc,_⟩
 ·have:n=0:=by simpa using hn
  subst this
  exact⟨zBa,rfl,.none⟩
 ·obtain⟨c',hc',he⟩:=zWC (o:=o) (p:=p) (n:=xs.length) (h:=(n:Int)) (by omega) (by omega) hc
  rw[Int.toNat_natCast] at he
  refine⟨_,he,fun Γ' h=>?_⟩
  rcases h with⟨h,_⟩|⟨p',o',c'',heq,_,h⟩
  ·cases h
  cases heq
  refine .inr ⟨p,o,c',by rw[List.length_take,Nat.min_eq_left hn],hc',?_⟩
  rcases h with rfl|⟨j,b,h1,h2⟩
  ·exact .inl (by simp)
  ·refine .inr ⟨j,b,h1,?_⟩
   rw[List.length_take,Nat.min_eq_left hn]
   have:=congrArg (List.take n) h2
   rw[List.take_take,Nat.min_eq_left hn] at this
   rw[this,by8,by8,List.map_take]
theorem zWw(h:RdB Γ v xs){n:Nat}(hn:n≤xs.length):∃ v',zWa 1 v (some (int n)) none none=some v'∧Inh v xs v' (xs.drop n):=by
 rcases h with⟨rfl,rfl⟩|⟨p,o,c,rfl,hc,_⟩
 ·have:n=0:=by simpa using hn
  subst this
  exact⟨zBa,rfl,.none⟩
 ·have hb:zkd xs.length (some (int (n:Int)))=some n:=by
   show (match leB 0 (n:Int) with|true=>(match Nat.ble (n:Int).toNat xs.length with|true=>some (n:Int).toNat|false=>none)|false=>none)=_
   rw[zbc,decide_eq_true (by omega)]
   simp only[Int.toNat_natCast]
   rw[Nat.ble_eq_true_of_le (by omega)]
  have he:∃ c',(c'=2∨c'=3)∧zWa 1 (sl p o xs.length c) (some (int n)) none none=some (sl p (o+n) (xs.length - n) c'):=by
   rcases hc with rfl|rfl
   ·refine⟨2,.inl rfl,?_⟩
    unfold zWa
    simp only[zkc,hb]
    simp[ztl,zCd]
   ·refine⟨3,.inr rfl,?_⟩
    unfold zWa
    simp only[zkc,hb]
    simp[ztl,zCd]
  obtain⟨c',hc',he⟩:=he
  refine⟨_,he,fun Γ' h=>?_⟩
  rcases h with⟨h,_⟩|⟨p',o',c'',heq,_,h⟩
  ·cases h
  cases heq
  refine .inr ⟨p,o+n,c',by rw[List.length_drop],hc',?_⟩
  rcases h with rfl|⟨j,b,h1,h2⟩
  ·exact .inl (by simp)
  ·refine .inr ⟨j,b,h1,?_⟩
   have:=congrArg (List.drop n) h2
   rw[List.drop_take,List.drop_drop] at this
   rw[List.length_drop,this,by8,by8,List.map_drop]
theorem zvF{t:Task}{K K':VH}(h:wT P t K)(hk:∀ v H,K v H→K' v H):wT P t K':=by
 obtain⟨n,ex,v,H',h1,h2⟩:=h
 exact⟨n,ex,v,H',h1,hk _ _ h2⟩
theorem RdB.bytes(hb:∀ x ∈ xs,0≤x∧x≤255)(n:Nat)(e:Int):∀ x ∈ tkB xs e n,0≤x∧x≤255:=by
 unfold tkB
 split
 ·exact fun x hx=>hb x (List.mem_of_mem_take hx)
 ·simp
end J
set_option linter.unusedSimpArgs false
set_option maxRecDepth 100000
namespace J
open Go Go.Ab
variable{H:Heap}{Γ:List (Nat × Blk)}{K:VH}{v w x:Value}{xs ys:List Int}{j p:Nat}{e:Int}
section
variable{α:Type}{f:α→List Value}{l:List α}{n i o m:Nat}
theorem zXw(hw:∀ x ∈ l,(f x).length=n):(l.flatMap f).length=l.length * n:=by
 induction l with
 | nil=>simp
 | cons a l ih=>
  rw[List.flatMap_cons,List.length_append,ih (fun x h=>hw x (List.mem_cons_of_mem _ h)),hw a List.mem_cons_self,List.length_cons,Nat.add_mul]; omega
theorem zws(hw:∀ x ∈ l,(f x).length=n)(h:i < l.length):∃ A B,l.flatMap f=A++(f l[i]++B)∧A.length=i * n∧∀ y,(l.set i y).flatMap f=A++(f y++B):=by
 refine⟨(l.take i).flatMap f,(l.drop (i+1)).flatMap f,?_,?_,fun y=>?_⟩
 ·conv=>lhs; rw[← List.take_append_drop i l,List.drop_eq_getElem_cons h]
  rw[List.flatMap_append,List.flatMap_cons]
 ·rw[zXw (fun x h=>hw x (List.mem_of_mem_take h)),List.length_take,Nat.min_eq_left (by omega)]
 ·rw[List.set_eq_take_append_cons_drop,if_pos h,List.flatMap_append,List.flatMap_cons]
theorem zMp(hw:∀ x ∈ l,(f x).length=n)(h:i < l.length)(hm:o+m≤n):((l.flatMap f).drop (i * n+o)).take m=((f l[i]).drop o).take m:=by
 obtain⟨A,B,e,ha,_⟩:=zws hw h
 have hl:=hw _ (List.getElem_mem h)
 rw[e,← List.drop_drop,← ha,List.drop_left,List.drop_append_of_le_length (by omega),List.take_append_of_le_length (by rw[List.length_drop]; omega)]
theorem zAo(hw:∀ x ∈ l,(f x).length=n)(h:i < l.length){y:α}{new:List Value}(hm:o+new.length≤n)(hy:f y=(f l[i]).take o++(new++(f l[i]).drop (o+new.length))) :
  (l.flatMap f).take (i * n+o)++(new++(l.flatMap f).drop (i * n+o+new.length))=(l.set i y).flatMap f:=by
 obtain⟨A,B,e,ha,hs⟩:=zws hw h
 have hl:=hw _ (List.getElem_mem h)
 rw[hs,hy,e,← ha]
 have e1:(A++(f l[i]++B)).take (A.length+o)=A++(f l[i]).take o:=by
  rw[List.take_length_add_append,List.take_append_of_le_length (by omega)]
 have e2:(A++(f l[i]++B)).drop (A.length+o+new.length)=(f l[i]).drop (o+new.length)++B:=by
  rw[Nat.add_assoc,List.drop_length_add_append,List.drop_append_of_le_length (by omega)]
 rw[e1,e2]
 simp
theorem flat_get(hw:∀ x ∈ l,(f x).length=n)(h:i < l.length)(hm:o < n):(l.flatMap f)[i * n+o]?=(f l[i])[o]?:=by
 obtain⟨A,B,e,ha,_⟩:=zws hw h
 have hl:=hw _ (List.getElem_mem h)
 rw[e,← ha,List.getElem?_append_right (by omega),Nat.add_sub_cancel_left,List.getElem?_append_left (by omega)]
end
theorem _root_.Go.Ab.St.rot[lp:LpC]{A B:List (Nat × Blk)}(h:St H ((Γ++A)++B)):St H ((Γ++B)++A):=h.perm (by
 rw[List.append_assoc,List.append_assoc]
 exact List.Perm.append_left Γ List.perm_append_comm)
theorem zDj[lp:LpC]{size bytes n q c:Nat}{cs new:List Value}{b:Bool}(hO:St H ((Γ++zhb v cs)++[(q,⟨new,b⟩)]))(hv:Own size v n cs)(hs:new.length=size)(hp:0 < size)(h1:new.all oneCell=true)
  (hr:(n+1) * bytes≤140737488355328) (hr2:n+1≤9223372036854775807)
  (hk:∀ p' H',St H' (Γ++[(p',⟨cs++new,true⟩)])→Own size (sl p' 0 (n+1) (2 * size)) (n+1) (cs++new)→K (sl p' 0 (n+1) (2 * size)) H'):opW (zEa size bytes v (sl q 0 1 c) H) K:=by
 have hO2:=hO.rot
 refine zRx hO2 hv hp (m:=1) rfl (new:=new) ?_ (by omega) hr hr2 h1 (by omega) ?_
 ·have hg:=hO.at ((Γ++zhb v cs).length+0) (zua rfl) (b:=⟨new,b⟩) (.inr (by intro h; simp only at h; rw[h] at hs; simp at hs; omega))
  rw[zcs hg (by simp[hs])]
  rw[List.drop_zero,Nat.one_mul,List.take_of_length_le (Nat.le_of_eq hs)]
 ·intro p' H' hO' hv'
  refine hk _ _ ?_ hv'
  show St H' (Γ++[(p',⟨cs++new,true⟩)])
  exact St.sub hO' (List.Sublist.append (List.sublist_append_left _ _) (List.Sublist.refl _))
theorem zLe[lp:LpC]{size bytes n q c:Nat}{cs new:List Value}{b:Bool}(hO:St H ((Γ++zhb v cs)++[(q,⟨new,b⟩)]))(hv:Own size v n cs)(hs:new.length=size)(hp:0 < size)(h1:new.all oneCell=true)
  (hr:(n+1) * bytes≤140737488355328) (hr2:n+1≤9223372036854775807)
  (hk:∀ v' H',St H' (Γ++zhb v' (cs++new))→Own size v' (n+1) (cs++new)→K v' H'):opW (zEa size bytes v (sl q 0 1 c) H) K:=
 zDj hO hv hs hp h1 hr hr2 fun p' H' h1 h2=>hk _ _ h1 h2
abbrev sec(s:List Int):Value:=agg (by8 s)
def blank:List Int:=List.replicate 64 255
def zeros:List Int:=List.replicate 64 0
theorem zsa(s:List Int):(by8 s).length=s.length:=by simp[by8]
theorem zvd(s:List Int):(by8 s).all oneCell=true:=by simp[by8,oneCell]
theorem zfr(xs:List Int):(by8 xs).all zSa=true:=by simp[zSa,zGd]
theorem zcS:zc P 45=by8 zeros:=by kernel_rfl
theorem bS:(zxa P 45).f []=some (sec zeros):=by kernel_rfl
def zDJ:List CK:=List.replicate 64 (.i .u8)
theorem fS:flatK P 100 45=some zDJ:=by kernel_rfl
theorem zEv:∀ (s:List Int),Fit (List.replicate s.length (.i .u8)) (by8 s)
 | []=>trivial
 | _::s=>⟨rfl,zEv s⟩
theorem zrE{s:List Int}(h:s.length=64):Fit zDJ (by8 s):=by
 have:=zEv s
 rw[h] at this; exact this
theorem zjl:∀ (a b:List Int),zvc (by8 a) (by8 b)=decide (a=b)
 | [],[]=>rfl
 | [],_::_=>rfl
 | _::_,[]=>rfl
 | x::a,y::b=>by
  show (decide (x=y) && zvc (by8 a) (by8 b))=_
  rw[zjl a b]
  by_cases h:x=y
  ·subst h; simp
  ·simp[h]
theorem neS{a b:List Int}(c:Bool)(ha:a.length=64)(hb:b.length=64):(zma P .neq 45 c).f (sec a) (sec b)=some (.bool (decide (a≠b))):=by
 rw[zFt fS (by kernel_rfl) (by kernel_rfl) (zrE ha) (zrE hb),zjl]
 simp
theorem zkD{y:Nat}(h:y < 64):(by8 (List.replicate y 255++List.replicate (64 - y) 0)).set (0+((y:Int)).toNat * 1) (.int .u8 255)=by8 (List.replicate (y+1) 255++List.replicate (64 - (y+1)) 0):=by
 have e:0+((y:Int)).toNat * 1=y:=by rw[Int.toNat_natCast]; omega
 rw[e,show 64 - y=(64 - (y+1))+1 by omega,List.replicate_succ]
 have e2:by8 (List.replicate y 255++0::List.replicate (64 - (y+1)) 0)=by8 (List.replicate y 255)++(.int .u8 0::by8 (List.replicate (64 - (y+1)) 0)):=by simp[by8]
 rw[e2,List.set_append_right _ _ (by rw[zsa]; simp),zsa,List.length_replicate,Nat.sub_self,List.set_cons_zero,List.replicate_succ']
 simp[by8]
theorem zHf[lp:LpC](hO:St H Γ)(hk:∀ H',St H' Γ→K (sec blank) H'):wCall P zzb [] H K:=by
 apply zxq; unfold zFp
 rw[zcS]
 refine zHa hO ?_
 intro p0 H hO
 refine zHa hO ?_
 intro p1 H hO
 rw[List.append_assoc] at hO
 refine zam (fun k l' H'=>∃ y:Nat,y≤64∧k=64 - y∧l'=[ptr p0 0,ptr p1 0,int y]∧St H' (Γ++[(p0,⟨by8 zeros,true⟩),(p1,⟨by8 (List.replicate y 255++List.replicate (64 - y) 0),true⟩)])) _ _ ?_ 64 _ _ ⟨0,by omega,rfl,rfl,hO⟩
 clear hO
 rintro k l' H' ⟨y,hy,rfl,rfl,hO⟩
 unfold zCk
 try simp only[zia,zja]
 repeat (first|refine oi ?_|refine ow ?_|refine wy ?_|refine wn ?_|refine wt ?_|refine wf' ?_|refine cy ?_|refine cn ?_)
 refine zna (fun h=>?_) (fun h=>?_)
 ·have hyl:y < 64:=by omega
  refine zaa (zqa (by omega) (by omega)) ?_
  refine zNa hO (Γ.length+1) (zua rfl) rfl (by rw[zsa]; simp; omega) (zkD hyl) ?_
  intro H hO
  repeat (first|refine oi ?_|refine ow ?_|refine wy ?_|refine wn ?_|refine wt ?_|refine wf' ?_|refine cy ?_|refine cn ?_)
  exact⟨_,by omega,y+1,by omega,rfl,rfl,hO.set_r⟩
 ·have e:y=64:=by omega
  subst e
  repeat (first|refine oi ?_|refine ow ?_|refine wy ?_|refine wn ?_|refine wt ?_|refine wf' ?_|refine cy ?_|refine cn ?_)
  refine zta hO (Γ.length+1) (zua rfl) (by rw[zsa]; rfl) (by omega) ?_
  refine zra hO (Γ.length+0) (zua rfl) (by rw[zsa]; rfl) (by rw[zsa]; rfl) (zvd _) ?_
  intro H hO
  refine zta hO (Γ.length+0) (by rw[Go.Ab.set_r]; exact zua rfl) (by rw[zsa]; rfl) (by omega) ?_
  exact hk _ (hO.set_r).left
end J
set_option maxRecDepth 100000
namespace J
open Go Go.Ab
variable{H:Heap}{Γ:List (Nat × Blk)}{K:VH}{v w x:Value}{xs ys:List Int}{j p:Nat}{e:Int}
structure Cell where
 kept:List Int
 seen:List Int
 wear:Int
structure Dv where
 cells:List Cell
 done:List (Nat × List Int)
 most:Int
 budget:Int
 down:Bool
def cel(c:Cell):List Value:=by8 c.kept++(by8 c.seen++[int c.wear])
def zFh(l:List Cell):List Value:=l.flatMap cel
def chg(c:Nat × List Int):List Value:=int c.1::by8 c.2
def zxs(l:List (Nat × List Int)):List Value:=l.flatMap chg
structure Cell.Ok (c:Cell):Prop where
 k:c.kept.length=64
 s:c.seen.length=64
 w:0≤c.wear∧c.wear≤100000
structure Dv.Ok (d:Dv):Prop where
 c:∀ c ∈ d.cells,c.Ok
 n:d.cells.length≤4096
 ds:∀ x ∈ d.done,x.1 < d.cells.length∧x.2.length=64
 m:d.most≤100000
 b:-1≤d.budget∧d.budget≤9223372036854775807
theorem zkf{c:Cell}(h:c.Ok):(cel c).length=129:=by simp[cel,zsa,h.k,h.s]
theorem zys{c:Nat × List Int}(h:c.2.length=64):(chg c).length=65:=by simp[chg,zsa,h]
theorem zcy(c:Cell):(cel c).all zSa=true:=by simp[cel,zSa,zGd]
theorem zwF(c:Cell):(cel c).all oneCell=true:=by simp[cel,by8,oneCell]
theorem zxF(c:Nat × List Int):(chg c).all oneCell=true:=by simp[chg,by8,oneCell]
theorem zFv(l:List Cell):(zFh l).all zSa=true:=by
 simp only[zFh,List.all_flatMap,List.all_eq_true]
 intro c _ x hx
 exact List.all_eq_true.1 (zcy c) x hx
theorem zYw{l:List Cell}(h:∀ c ∈ l,c.Ok):(zFh l).length=l.length * 129:=zXw fun c hc=>zkf (h c hc)
def dv(pc:Nat)(vd:Value)(d:Dv):List Value:=[sl pc 0 d.cells.length 259,vd,int d.most,int d.budget,.bool d.down]
abbrev DW(pd pc:Nat)(vd:Value)(d:Dv):List (Nat × Blk):=[(pd,⟨dv pc vd d,true⟩),(pc,⟨zFh d.cells,true⟩)]++zhb vd (zxs d.done)
abbrev zYB(vd:Value)(d:Dv):Prop:=Own 65 vd d.done.length (zxs d.done)
def Dv.has(d:Dv)(at':Int):Prop:=0≤at'∧at' < d.cells.length
instance (d:Dv) (at':Int):Decidable (d.has at'):=by unfold Dv.has; infer_instance
variable{pd pc:Nat}{vd:Value}{d:Dv}{a:Int}
theorem zdy(hO:St H Γ)(hj:Γ[j]?=some (pd,⟨dv pc vd d,true⟩))(hk:K (int d.cells.length) H):wCall P zKd [ptr pd 0] H K:=by
 apply zhk; unfold zth
 repeat (first|refine oi ?_|refine ow ?_|refine wy ?_|refine wn ?_|refine wt ?_|refine wf' ?_|refine cy ?_|refine cn ?_)
 refine zga hO j hj rfl ?_
 repeat (first|refine oi ?_|refine ow ?_|refine wy ?_|refine wn ?_|refine wt ?_|refine wf' ?_|refine cy ?_|refine cn ?_)
 exact hk
theorem zNp(hO:St H Γ)(hj:Γ[j]?=some (pd,⟨dv pc vd d,true⟩))(hk1:d.has a→K (ptr pc (a.toNat * 129)) H)(hk0:¬ d.has a→K (.pointer none) H):wCall P zLb [ptr pd 0,int a] H K:=by
 apply zik; unfold zuh
 refine zva (fun l' H'=>l'=[ptr pd 0,int a]∧H'=H∧d.has a) ?_ ?_
 ·repeat (first|refine oi ?_|refine ow ?_|refine wy ?_|refine wn ?_|refine wt ?_|refine wf' ?_|refine cy ?_|refine cn ?_)
  refine zna (fun h=>?_) (fun h=>?_)
  ·repeat (first|refine oi ?_|refine ow ?_|refine wy ?_|refine wn ?_|refine wt ?_|refine wf' ?_|refine cy ?_|refine cn ?_)
   exact hk0 fun h'=>by have:=h'.1; omega
  ·repeat (first|refine oi ?_|refine ow ?_|refine wy ?_|refine wn ?_|refine wt ?_|refine wf' ?_|refine cy ?_|refine cn ?_)
   refine zga hO j hj rfl ?_
   repeat (first|refine oi ?_|refine ow ?_|refine wy ?_|refine wn ?_|refine wt ?_|refine wf' ?_|refine cy ?_|refine cn ?_)
   refine zna (fun h2=>?_) (fun h2=>?_)
   ·exact hk0 fun h'=>by have:=h'.2; omega
   ·exact⟨rfl,rfl,by omega,by omega⟩
 ·rintro l' H' ⟨rfl,rfl,h⟩
  try simp only[zia,zja]
  repeat (first|refine oi ?_|refine ow ?_|refine wy ?_|refine wn ?_|refine wt ?_|refine wf' ?_|refine cy ?_|refine cn ?_)
  refine zga hO j hj rfl ?_
  refine zaa (zfb h.1 h.2) ?_
  rw[Nat.zero_add]
  exact hk1 h
def zPb:Cell:=⟨zeros,zeros,0⟩
def Dv.cell(d:Dv)(a:Int):Cell:=d.cells.getD a.toNat zPb
theorem Dv.get{d:Dv}{a:Int}(h:d.has a):∃ hi:a.toNat < d.cells.length,d.cells[a.toNat]=d.cell a:=by
 have hi:a.toNat < d.cells.length:=by have:=h.1; have:=h.2; omega
 refine⟨hi,?_⟩
 unfold Dv.cell
 rw[List.getD_eq_getElem?_getD,List.getElem?_eq_getElem hi]; rfl
theorem Dv.cellOk{d:Dv}{a:Int}(ok:∀ c ∈ d.cells,c.Ok)(h:d.has a):(d.cell a).Ok:=by
 obtain⟨hi,e⟩:=Dv.get h
 rw[← e]
 exact ok _ (List.getElem_mem hi)
theorem zxA{d:Dv}{a:Int}(ok:∀ c ∈ d.cells,c.Ok)(h:d.has a):((zFh d.cells).drop (a.toNat * 129+64)).take 64=by8 (d.cell a).seen:=by
 obtain⟨hi,e⟩:=Dv.get h
 unfold zFh
 rw[zMp (fun c hc=>zkf (ok c hc)) hi (by omega),e]
 have hk:=(Dv.cellOk ok h)
 unfold cel
 rw[List.drop_left' (by rw[zsa]; exact hk.k),List.take_left' (by rw[zsa]; exact hk.s)]
theorem zyA{d:Dv}{a:Int}(ok:∀ c ∈ d.cells,c.Ok)(h:d.has a):(zFh d.cells)[a.toNat * 129+128]?=some (int (d.cell a).wear):=by
 obtain⟨hi,e⟩:=Dv.get h
 unfold zFh
 rw[flat_get (fun c hc=>zkf (ok c hc)) hi (by omega),e]
 have hk:=(Dv.cellOk ok h)
 unfold cel
 rw[← List.append_assoc,List.getElem?_append_right (by simp[zsa,hk.k,hk.s])]
 simp[zsa,hk.k,hk.s]
def Dv.read(d:Dv)(a:Int):List Int × Int:=if d.has a then ((d.cell a).seen,0) else (zeros,61)
theorem zey(ok:∀ c ∈ d.cells,c.Ok)(hO:St H (Γ++DW pd pc vd d))(hk:∀ H',St H' (Γ++DW pd pc vd d)→K (.tuple [sec (d.read a).1,int (d.read a).2].toArray) H'):wCall P zLd [ptr pd 0,int a] H K:=by
 apply zkk; unfold zwh
 rw[zcS]
 refine zHa hO ?_
 intro p4 H hO
 refine zNp hO (zwa (zua (k:=0) rfl)) ?_ ?_
 ·intro h
  unfold Dv.read at hk
  rw[if_pos h] at hk
  refine zaa (show (zma P .eql 133 true).f _ _=some (.bool false) from rfl) ?_
  repeat (first|refine oi ?_|refine ow ?_|refine wy ?_|refine wn ?_|refine wt ?_|refine wf' ?_|refine cy ?_|refine cn ?_)
  refine zMa hO (Γ.length+1) (zwa (zua rfl)) (zxA ok h) (by rw[zsa]; exact (Dv.cellOk ok h).s) (by omega) ?_
  refine zra hO ((Γ++DW pd pc vd d).length+0) (zua rfl) (by rw[zsa]; rfl) (by rw[zsa]; exact (Dv.cellOk ok h).s) (zvd _) ?_
  intro H hO
  replace hO:=hO.set_r
  refine zta hO ((Γ++DW pd pc vd d).length+0) (zua rfl) (by rw[zsa]; exact (Dv.cellOk ok h).s) (by omega) ?_
  exact hk _ hO.left
 ·intro h
  unfold Dv.read at hk
  rw[if_neg h] at hk
  refine zaa (show (zma P .eql 133 true).f _ _=some (.bool true) from rfl) ?_
  repeat (first|refine oi ?_|refine ow ?_|refine wy ?_|refine wn ?_|refine wt ?_|refine wf' ?_|refine cy ?_|refine cn ?_)
  refine zaa bS ?_
  refine zra hO ((Γ++DW pd pc vd d).length+0) (zua rfl) (by rw[zsa]; rfl) (by rw[zsa]; rfl) (zvd _) ?_
  intro H hO
  replace hO:=hO.set_r
  refine zta hO ((Γ++DW pd pc vd d).length+0) (zua rfl) (by rw[zsa]; rfl) (by omega) ?_
  exact hk _ hO.left
def Dv.step(d:Dv):Dv:={ d with down:=d.down || decide (d.budget=0),budget:=if ¬ (d.down=true∨d.budget=0)∧0 < d.budget then d.budget - 1 else d.budget }
theorem zzA(hb:-1≤d.budget∧d.budget≤9223372036854775807)(hO:St H Γ)(hj:Γ[j]?=some (pd,⟨dv pc vd d,true⟩))(hk:∀ H',St H' (Γ.set j (pd,⟨dv pc vd d.step,true⟩))→K (.bool !d.step.down) H'):wCall P zyb [ptr pd 0] H K:=by
 apply zjk; unfold zvh
 have hjl:=(List.getElem?_eq_some_iff.1 hj).1
 refine zva (fun l' H'=>l'=[ptr pd 0]∧St H' (Γ.set j (pd,⟨dv pc vd { d with down:=d.down || decide (d.budget=0) },true⟩))) ?_ ?_
 ·repeat (first|refine oi ?_|refine ow ?_|refine wy ?_|refine wn ?_|refine wt ?_|refine wf' ?_|refine cy ?_|refine cn ?_)
  refine zga hO j hj rfl ?_
  cases hd:d.down with
  | true=>
   repeat (first|refine oi ?_|refine ow ?_|refine wy ?_|refine wn ?_|refine wt ?_|refine wf' ?_|refine cy ?_|refine cn ?_)
   refine zNa hO j hj rfl (show 4 < 5 by omega) rfl ?_
   intro H hO
   refine⟨rfl,?_⟩
   simp only[Bool.true_or]
   exact hO
  | false=>
   repeat (first|refine oi ?_|refine ow ?_|refine wy ?_|refine wn ?_|refine wt ?_|refine wf' ?_|refine cy ?_|refine cn ?_)
   refine zga hO j hj rfl ?_
   repeat (first|refine oi ?_|refine ow ?_|refine wy ?_|refine wn ?_|refine wt ?_|refine wf' ?_|refine cy ?_|refine cn ?_)
   refine zNa hO j hj rfl (show 4 < 5 by omega) rfl ?_
   intro H hO
   refine⟨rfl,?_⟩
   simp only[Bool.false_or]
   exact hO
 clear hO
 rintro l' H ⟨rfl,hO⟩
 try simp only[zia,zja]
 have hj2:(Γ.set j (pd,(⟨dv pc vd { d with down:=d.down || decide (d.budget=0) },true⟩:Blk)))[j]?=some (pd,⟨dv pc vd { d with down:=d.down || decide (d.budget=0) },true⟩):=List.getElem?_set_self hjl
 refine zva (fun l' H'=>l'=[ptr pd 0]∧St H' (Γ.set j (pd,⟨dv pc vd d.step,true⟩))) ?_ ?_
 ·refine zva (fun l' H'=>l'=[ptr pd 0,.bool (decide (¬ (d.down=true∨d.budget=0)∧0 < d.budget))]∧H'=H) ?_ ?_
  ·repeat (first|refine oi ?_|refine ow ?_|refine wy ?_|refine wn ?_|refine wt ?_|refine wf' ?_|refine cy ?_|refine cn ?_)
   refine zga hO j hj2 rfl ?_
   refine zaa zmc ?_
   by_cases hd:d.down=true∨d.budget=0
   ·have e:(d.down || decide (d.budget=0))=true:=by rcases hd with h|h <;> simp[h]
    rw[show (!({ d with down:=d.down || decide (d.budget=0) }:Dv).down)=false by show (!(d.down || decide (d.budget=0)))=false; rw[e]; rfl]
    repeat (first|refine oi ?_|refine ow ?_|refine wy ?_|refine wn ?_|refine wt ?_|refine wf' ?_|refine cy ?_|refine cn ?_)
    exact⟨by rw[decide_eq_false (fun h=>h.1 hd)],rfl⟩
   ·have e:(d.down || decide (d.budget=0))=false:=by
     cases h:d.down with
     | true=>exact absurd (.inl h) hd
     | false=>simp; exact fun h=>hd (.inr h)
    rw[show (!({ d with down:=d.down || decide (d.budget=0) }:Dv).down)=true by show (!(d.down || decide (d.budget=0)))=true; rw[e]; rfl]
    repeat (first|refine oi ?_|refine ow ?_|refine wy ?_|refine wn ?_|refine wt ?_|refine wf' ?_|refine cy ?_|refine cn ?_)
    refine zga hO j hj2 rfl ?_
    repeat (first|refine oi ?_|refine ow ?_|refine wy ?_|refine wn ?_|refine wt ?_|refine wf' ?_|refine cy ?_|refine cn ?_)
    refine⟨?_,rfl⟩
    show _=[ptr pd 0,.bool _]
    rw[decide_eq_decide.2 (show (0 < d.budget)↔(¬ (d.down=true∨d.budget=0)∧0 < d.budget) from⟨fun h=>⟨hd,h⟩,fun h=>h.2⟩)]
  rintro l' H' ⟨rfl,rfl⟩
  try simp only[zia,zja]
  refine zna (fun h=>?_) (fun h=>?_)
  ·repeat (first|refine oi ?_|refine ow ?_|refine wy ?_|refine wn ?_|refine wt ?_|refine wf' ?_|refine cy ?_|refine cn ?_)
   refine zga hO j hj2 rfl ?_
   repeat (first|refine oi ?_|refine ow ?_|refine wy ?_|refine wn ?_|refine wt ?_|refine wf' ?_|refine cy ?_|refine cn ?_)
   refine zaa (zub (by have:=h.2; show _≤d.budget - 1; omega) (by show d.budget - 1≤_; omega)) ?_
   repeat (first|refine oi ?_|refine ow ?_|refine wy ?_|refine wn ?_|refine wt ?_|refine wf' ?_|refine cy ?_|refine cn ?_)
   refine zNa hO j hj2 rfl (show 3 < 5 by omega) rfl ?_
   intro H hO
   rw[List.set_set] at hO
   refine⟨trivial,?_⟩
   have e:d.step={ d with down:=d.down || decide (d.budget=0),budget:=d.budget - 1 }:=by unfold Dv.step; rw[if_pos h]
   rw[e]; exact hO
  ·refine⟨trivial,?_⟩
   have e:d.step={ d with down:=d.down || decide (d.budget=0) }:=by unfold Dv.step; rw[if_neg h]
   rw[e]; exact hO
 clear hO hj2
 rintro l' H ⟨rfl,hO⟩
 try simp only[zia,zja]
 repeat (first|refine oi ?_|refine ow ?_|refine wy ?_|refine wn ?_|refine wt ?_|refine wf' ?_|refine cy ?_|refine cn ?_)
 refine zga hO j (List.getElem?_set_self hjl) rfl ?_
 repeat (first|refine oi ?_|refine ow ?_|refine wy ?_|refine wn ?_|refine wt ?_|refine wf' ?_|refine cy ?_|refine cn ?_)
 exact hk _ hO
end J
set_option maxRecDepth 100000
namespace J
open Go Go.Ab
variable{H:Heap}{Γ:List (Nat × Blk)}{K:VH}{v w x:Value}{xs ys:List Int}{j p:Nat}{e:Int}
variable{pd pc:Nat}{vd:Value}{d:Dv}{a:Int}{s:List Int}
theorem zZt(h:s.length=64):∃ g:Nat→Int,s=(List.range 64).map g:=⟨fun i=>s.getD i 0,by
 apply List.ext_getElem?
 intro i
 by_cases hi:i < 64
 ·simp[hi,h]
 ·rw[List.getElem?_eq_none (by omega),List.getElem?_eq_none (by simp; omega)]⟩
theorem zRI(a:Int)(g:Nat→Int):(zxa P 137).f [(0,int a),(1,sec ((List.range 64).map g))]=some (agg (int a::by8 ((List.range 64).map g))):=by kernel_rfl
theorem zQJ(a:Int)(h:s.length=64):(zxa P 137).f [(0,int a),(1,sec s)]=some (agg (int a::by8 s)):=by
 obtain⟨g,rfl⟩:=zZt h
 exact zRI a g
theorem zkH(a:Int)(g:Nat→Int)(H:Heap):(zoa P 112 1).f [(0,agg (int a::by8 ((List.range 64).map g)))] H=some (sl H.next 0 1 131,H.push (int a::by8 ((List.range 64).map g))):=by kernel_rfl
theorem zSI(a:Int)(h:s.length=64)(H:Heap):(zoa P 112 1).f [(0,agg (int a::by8 s))] H=some (sl H.next 0 1 131,H.push (int a::by8 s)):=by
 obtain⟨g,rfl⟩:=zZt h
 exact zkH a g H
theorem zlH(g g':Nat→Int):(zxa P 131).f [(0,sec ((List.range 64).map g)),(1,sec ((List.range 64).map g'))]=some (agg (cel ⟨(List.range 64).map g,(List.range 64).map g',0⟩)):=by kernel_rfl
theorem zTI{s s':List Int}(h:s.length=64)(h':s'.length=64):(zxa P 131).f [(0,sec s),(1,sec s')]=some (agg (cel ⟨s,s',0⟩)):=by
 obtain⟨g,rfl⟩:=zZt h
 obtain⟨g',rfl⟩:=zZt h'
 exact zlH g g'
theorem zUI:zc P 137=int 0::by8 zeros:=by kernel_rfl
def Dv.upd(d:Dv)(a:Int)(c:Cell):Dv:={ d with cells:=d.cells.set a.toNat c }
def Dv.put(d:Dv)(a:Int)(s:List Int):Dv:={ d with cells:=d.cells.set a.toNat { d.cell a with seen:=s },done:=d.done++[(a.toNat,s)] }
theorem zlD{c:Cell}(ok:c.Ok)(h:s.length=64):cel { c with seen:=s }=(cel c).take 64++(by8 s++(cel c).drop (64+(by8 s).length)):=by
 unfold cel
 rw[List.take_left' (by rw[zsa]; exact ok.k),← List.drop_drop,List.drop_left' (by rw[zsa]; exact ok.k),List.drop_left' (by rw[zsa,zsa,ok.s,h])]
theorem zmD{c:Cell}(ok:c.Ok)(h:s.length=64):cel { c with kept:=s }=(cel c).take 0++(by8 s++(cel c).drop (0+(by8 s).length)):=by
 unfold cel
 rw[List.take_zero,List.nil_append,Nat.zero_add,List.drop_left' (by rw[zsa,zsa,ok.k,h])]
theorem znD{c:Cell}(ok:c.Ok)(n:Int):cel { c with wear:=n }=(cel c).take 128++([int n]++(cel c).drop (128+[int n].length)):=by
 have e:cel c=(by8 c.kept++by8 c.seen)++[int c.wear]:=by simp[cel]
 have l:(by8 c.kept++by8 c.seen).length=128:=by simp[zsa,ok.k,ok.s]
 rw[e,List.take_left' l,List.drop_of_length_le (by rw[List.length_append,l]; simp)]
 simp[cel]
theorem zoD(ok:∀ c ∈ d.cells,c.Ok)(h:d.has a)(hs:s.length=64):(zFh d.cells).take (a.toNat * 129+64)++(by8 s++(zFh d.cells).drop (a.toNat * 129+64+(by8 s).length))=zFh (d.cells.set a.toNat { d.cell a with seen:=s }):=by
 obtain⟨hi,e⟩:=Dv.get h
 have hok:=Dv.cellOk ok h
 exact zAo (fun c hc=>zkf (ok c hc)) hi (by rw[zsa]; omega) (by rw[e]; exact zlD hok hs)
theorem zpD(ok:∀ c ∈ d.cells,c.Ok)(h:d.has a)(hs:s.length=64):(zFh d.cells).take (a.toNat * 129+0)++(by8 s++(zFh d.cells).drop (a.toNat * 129+0+(by8 s).length))=zFh (d.cells.set a.toNat { d.cell a with kept:=s }):=by
 obtain⟨hi,e⟩:=Dv.get h
 have hok:=Dv.cellOk ok h
 exact zAo (fun c hc=>zkf (ok c hc)) hi (by rw[zsa]; omega) (by rw[e]; exact zmD hok hs)
theorem zqD(ok:∀ c ∈ d.cells,c.Ok)(h:d.has a)(n:Int):(zFh d.cells).take (a.toNat * 129+128)++([int n]++(zFh d.cells).drop (a.toNat * 129+128+1))=zFh (d.cells.set a.toNat { d.cell a with wear:=n }):=by
 obtain⟨hi,e⟩:=Dv.get h
 have hok:=Dv.cellOk ok h
 exact zAo (fun c hc=>zkf (ok c hc)) hi (by simp) (by rw[e]; exact znD hok n)
theorem zzs(ok:∀ c ∈ d.cells,c.Ok)(h:d.has a):a.toNat * 129+129≤(zFh d.cells).length:=by
 rw[zYw ok]
 have:=h.1; have:=h.2
 omega
theorem zZw(ok:d.Ok)(h:d.has a)(hs:s.length=64)(hd:d.done.length≤1000000)(hO:St H (Γ++DW pd pc vd d))(hv:zYB vd d)
  (hk:∀ H' vd',St H' (Γ++DW pd pc vd' (d.put a s))→zYB vd' (d.put a s)→K (.tuple [].toArray) H'):wCall P zRc [ptr pd 0,int a,sec s] H K:=by
 apply zcl; unfold zzi
 refine zHa hO ?_
 intro p5 H hO
 replace hO:St H ((Γ++[(p5,⟨by8 s,true⟩)])++DW pd pc vd d):=St.rot hO
 have i5:(Γ++[(p5,(⟨by8 s,true⟩:Blk))])[Γ.length+0]?=some (p5,⟨by8 s,true⟩):=zua rfl
 have fin:∀ {H:Heap} {Δ:List (Nat × Blk)},St H ((Γ++[(p5,⟨by8 s,true⟩)])++Δ)→St H (Γ++Δ):=fun h=>St.mid h
 generalize Γ++[(p5,(⟨by8 s,true⟩:Blk))]=Γ' at hO i5 fin
 repeat (first|refine oi ?_|refine ow ?_|refine wy ?_|refine wn ?_|refine wt ?_|refine wf' ?_|refine cy ?_|refine cn ?_)
 refine zga hO (Γ'.length+0) (zua rfl) rfl ?_
 refine zta hO (Γ.length+0) (zwa i5) (by rw[zsa]; exact hs) (by omega) ?_
 refine zaa (zfb h.1 h.2) ?_
 repeat (first|refine oi ?_|refine ow ?_|refine wy ?_|refine wn ?_|refine wt ?_|refine wf' ?_|refine cy ?_|refine cn ?_)
 rw[Nat.zero_add]
 refine zNc hO (Γ'.length+1) (zua rfl) (show (by8 s).length=64 by rw[zsa]; exact hs) (by have:=zzs ok.c h; show a.toNat * 129+64+64≤(zFh d.cells).length; omega) (zvd s) ?_
 intro H hO
 have e1:(zFh d.cells).take (a.toNat * 129+64)++(by8 s++(zFh d.cells).drop (a.toNat * 129+64+64))=zFh (d.upd a { d.cell a with seen:=s }).cells:=by
  have:=zoD ok.c h hs
  rw[zsa,hs] at this; exact this
 have l1:(d.upd a { d.cell a with seen:=s }).cells.length=d.cells.length:=List.length_set
 replace hO:St H (Γ'++DW pd pc vd (d.upd a { d.cell a with seen:=s })):=by
  have h3:St H (Γ'++([(pd,⟨dv pc vd d,true⟩),(pc,⟨(zFh d.cells).take (a.toNat * 129+64)++(by8 s++(zFh d.cells).drop (a.toNat * 129+64+64)),true⟩)]++zhb vd (zxs d.done))):=hO.set_r
  have e2:dv pc vd d=dv pc vd (d.upd a { d.cell a with seen:=s }):=by unfold dv; rw[l1]; rfl
  rw[e1,e2] at h3
  exact h3
 repeat (first|refine oi ?_|refine ow ?_|refine wy ?_|refine wn ?_|refine wt ?_|refine wf' ?_|refine cy ?_|refine cn ?_)
 refine zga hO (Γ'.length+0) (zua rfl) rfl ?_
 refine zta hO (Γ.length+0) (zwa i5) (by rw[zsa]; exact hs) (by omega) ?_
 refine zaa (zQJ a hs) ?_
 have hO':St H ((Γ'++[(pd,⟨dv pc vd (d.upd a { d.cell a with seen:=s }),true⟩),(pc,⟨zFh (d.upd a { d.cell a with seen:=s }).cells,true⟩)])++zhb vd (zxs d.done)):=by
  rw[List.append_assoc]; exact hO
 refine zbb hO' (zSI a hs _) ?_
 intro q H hO
 have ha:a=((a.toNat:Nat):Int):=by have:=h.1; omega
 refine zLe hO hv (by simp[zsa,hs]) (by omega) (by simp[by8,oneCell]) (by omega) (by omega) ?_
 intro vd' H hO hv'
 rw[List.append_assoc] at hO
 repeat (first|refine oi ?_|refine ow ?_|refine wy ?_|refine wn ?_|refine wt ?_|refine wf' ?_|refine cy ?_|refine cn ?_)
 obtain⟨a1,n1,c1,e1⟩:∃ a1 n1 c1,vd'=.slice a1 n1 c1:=by rcases hv' with⟨_,h,_⟩|⟨p,rfl|rfl,_⟩; omega; exact⟨_,_,_,rfl⟩; exact⟨_,_,_,rfl⟩
 refine zNa hO (Γ'.length+0) (zua rfl) (by rw[e1]; rfl) (show 1 < 5 by omega) rfl ?_
 intro H hO
 have ec:zxs d.done++(int a::by8 s)=zxs (d.put a s).done:=by
  show _=(d.done++[(a.toNat,s)]).flatMap chg
  rw[List.flatMap_append]
  show _=d.done.flatMap chg++(int ((a.toNat:Nat):Int)::by8 s++[])
  rw[← ha,List.append_nil]; rfl
 have h3:=fin hO.set_r
 rw[ec] at h3 hv'
 refine hk _ vd' h3 ?_
 show Own 65 vd' (d.done++[(a.toNat,s)]).length _
 rw[List.length_append]
 exact hv'
end J
set_option maxRecDepth 100000
namespace J
open Go Go.Ab
variable{H:Heap}{Γ:List (Nat × Blk)}{K:VH}{v w x:Value}{xs ys:List Int}{j p:Nat}{e:Int}
variable{pd pc:Nat}{vd:Value}{d:Dv}{a:Int}{s:List Int}
theorem Dv.step_ok(ok:d.Ok):d.step.Ok:=⟨ok.c,ok.n,ok.ds,ok.m,by
 have:=ok.b
 unfold Dv.step
 by_cases h:¬ (d.down=true∨d.budget=0)∧0 < d.budget
 ·rw[if_pos h]; have:=h.2; show -1≤d.budget - 1∧d.budget - 1≤_; omega
 ·rw[if_neg h]; exact this⟩
theorem zZm{l:List Cell}{i:Nat}{c:Cell}(h:∀ c ∈ l,c.Ok)(hc:c.Ok):∀ x ∈ l.set i c,x.Ok:=by
 intro x hx
 rcases List.mem_or_eq_of_mem_set hx with h'|h'
 ·exact h x h'
 ·rw[h']; exact hc
theorem Dv.upd_ok{c:Cell}(ok:d.Ok)(hc:c.Ok):(d.upd a c).Ok:=⟨zZm ok.c hc,by show (d.cells.set _ _).length≤_; rw[List.length_set]; exact ok.n,by
 intro x hx
 show x.1 < (d.cells.set _ _).length∧_
 rw[List.length_set]; exact ok.ds x hx,ok.m,ok.b⟩
theorem Dv.put_ok(ok:d.Ok)(h:d.has a)(hs:s.length=64):(d.put a s).Ok:=by
 have hc:=Dv.cellOk ok.c h
 refine⟨zZm ok.c ⟨hc.k,hs,hc.w⟩,by show (d.cells.set _ _).length≤_; rw[List.length_set]; exact ok.n,?_,ok.m,ok.b⟩
 intro x hx
 show x.1 < (d.cells.set _ _).length∧_
 rw[List.length_set]
 rcases List.mem_append.1 hx with hx|hx
 ·exact ok.ds x hx
 ·have:x=(a.toNat,s):=by simpa using hx
  subst this
  exact⟨by have:=h.1; have:=h.2; show a.toNat < _; omega,hs⟩
def Dv.erase(d:Dv)(a:Int):Dv × Int:=
 if ¬ d.has a then (d,61) else if d.down=true then (d,62) else if d.most≤(d.cell a).wear then (d,64) else if d.step.down=true then (d.step,62)
 else ((d.step.upd a { d.cell a with wear:=(d.cell a).wear+1 }).put a blank,0)
def Dv.program(d:Dv)(a:Int)(s:List Int):Dv × Int:=
 if ¬ d.has a then (d,61) else if d.down=true then (d,62) else if (d.cell a).seen≠blank then (d,63) else if d.step.down=true then (d.step,62)
 else (d.step.put a s,0)
theorem Dv.upd_has{c:Cell}:(d.upd a c).has a↔d.has a:=by unfold Dv.has Dv.upd; simp
theorem Dv.erase_ok(ok:d.Ok):(d.erase a).1.Ok:=by
 unfold Dv.erase
 by_cases h:d.has a
 ·rw[if_neg (fun h'=>h' h)]
  split
  ·exact ok
  split
  ·exact ok
  split
  ·exact Dv.step_ok ok
  rename_i h1 h2 h3
  have hc:=Dv.cellOk ok.c h
  have hw:=hc.w
  have hm:=ok.m
  refine Dv.put_ok (Dv.upd_ok (Dv.step_ok ok) ⟨hc.k,hc.s,?_⟩) (Dv.upd_has.2 h) rfl
  show 0≤(d.cell a).wear+1∧(d.cell a).wear+1≤100000
  omega
 ·rw[if_pos h]; exact ok
theorem Dv.program_ok(ok:d.Ok)(hs:s.length=64):(d.program a s).1.Ok:=by
 unfold Dv.program
 by_cases h:d.has a
 ·rw[if_neg (fun h'=>h' h)]
  split
  ·exact ok
  split
  ·exact ok
  split
  ·exact Dv.step_ok ok
  exact Dv.put_ok (Dv.step_ok ok) h hs
 ·rw[if_pos h]; exact ok
theorem zGv(ok:d.Ok)(hO:St H (Γ++DW pd pc vd d))(hk:∀ H',St H' (Γ++DW pd pc vd d.step)→K (.bool !d.step.down) H'):wCall P zyb [ptr pd 0] H K:=by
 refine zzA ok.b hO (j:=Γ.length+0) (zua rfl) ?_
 intro H' h
 exact hk H' h.set_r
set_option maxHeartbeats 1000000 in
theorem zHv(ok:d.Ok)(hd:d.done.length≤1000000)(hO:St H (Γ++DW pd pc vd d))(hv:zYB vd d)
  (hk:∀ H' vd',St H' (Γ++DW pd pc vd' (d.erase a).1)→zYB vd' (d.erase a).1→K (int (d.erase a).2) H'):wCall P zpd [ptr pd 0,int a] H K:=by
 apply zBj; unfold zNg
 unfold Dv.erase at hk
 refine zNp hO (zua (k:=0) rfl) ?_ ?_
 ·intro h
  rw[if_neg (fun h'=>h' h)] at hk
  refine zaa (show (zma P .eql 133 true).f _ _=some (.bool false) from rfl) ?_
  repeat (first|refine oi ?_|refine ow ?_|refine wy ?_|refine wn ?_|refine wt ?_|refine wf' ?_|refine cy ?_|refine cn ?_)
  refine zga hO (Γ.length+0) (zua rfl) rfl ?_
  refine zEc (fun hb=>?_) (fun hb=>?_)
  ·rw[if_pos hb] at hk
   exact hk _ _ hO hv
  rw[if_neg (by rw[hb]; simp)] at hk
  repeat (first|refine oi ?_|refine ow ?_|refine wy ?_|refine wn ?_|refine wt ?_|refine wf' ?_|refine cy ?_|refine cn ?_)
  refine zga hO (Γ.length+1) (zua rfl) (zyA ok.c h) ?_
  repeat (first|refine oi ?_|refine ow ?_|refine wy ?_|refine wn ?_|refine wt ?_|refine wf' ?_|refine cy ?_|refine cn ?_)
  refine zga hO (Γ.length+0) (zua rfl) rfl ?_
  refine zaa zMf ?_
  refine zna (fun h1=>?_) (fun h1=>?_)
  ·rw[if_pos h1] at hk
   exact hk _ _ hO hv
  rw[if_neg h1] at hk
  refine zGv ok hO ?_
  clear hO
  intro H hO
  refine zaa zmc ?_
  rw[Bool.not_not]
  refine zEc (fun h2=>?_) (fun h2=>?_)
  ·rw[if_pos h2] at hk
   exact hk _ _ hO hv
  rw[if_neg (by rw[h2]; simp)] at hk
  have oks:=Dv.step_ok ok
  have hw:=(Dv.cellOk ok.c h).w
  repeat (first|refine oi ?_|refine ow ?_|refine wy ?_|refine wn ?_|refine wt ?_|refine wf' ?_|refine cy ?_|refine cn ?_)
  refine zga hO (Γ.length+1) (zua rfl) (zyA (d:=d.step) oks.c h) ?_
  refine zaa (zYa (by show _≤(d.cell a).wear+1; omega) (by show (d.cell a).wear+1≤_; omega)) ?_
  repeat (first|refine oi ?_|refine ow ?_|refine wy ?_|refine wn ?_|refine wt ?_|refine wf' ?_|refine cy ?_|refine cn ?_)
  refine zNc hO (Γ.length+1) (zua rfl) (show ([int ((d.cell a).wear+1)]:List Value).length=1 from rfl) (by have:=zzs oks.c (d:=d.step) h; show a.toNat * 129+128+1≤(zFh d.step.cells).length; omega) rfl ?_
  clear hO
  intro H hO
  have e1:=zqD (d:=d.step) oks.c h ((d.cell a).wear+1)
  replace hO:St H (Γ++DW pd pc vd (d.step.upd a { d.cell a with wear:=(d.cell a).wear+1 })):=by
   have h3:St H (Γ++([(pd,⟨dv pc vd d.step,true⟩),(pc,⟨(zFh d.step.cells).take (a.toNat * 129+128)++([int ((d.cell a).wear+1)]++(zFh d.step.cells).drop (a.toNat * 129+128+1)),true⟩)]++zhb vd (zxs d.done))):=hO.set_r
   have e2:dv pc vd d.step=dv pc vd (d.step.upd a { d.cell a with wear:=(d.cell a).wear+1 }):=by
    unfold dv
    rw[show (d.step.upd a { d.cell a with wear:=(d.cell a).wear+1 }).cells.length=d.step.cells.length from List.length_set]; rfl
   rw[e1,e2] at h3
   exact h3
  have ok2:(d.step.upd a { d.cell a with wear:=(d.cell a).wear+1 }).Ok:=by
   have hc:=Dv.cellOk ok.c h
   have hm:=ok.m
   refine Dv.upd_ok oks ⟨hc.k,hc.s,?_⟩
   show 0≤(d.cell a).wear+1∧(d.cell a).wear+1≤100000
   omega
  refine zHf hO ?_
  clear hO
  intro H hO
  refine zZw ok2 (Dv.upd_has.2 h) rfl hd hO hv ?_
  clear hO
  intro H vd' hO hv'
  exact hk _ _ hO hv'
 ·intro h
  rw[if_pos h] at hk
  refine zaa (show (zma P .eql 133 true).f _ _=some (.bool true) from rfl) ?_
  repeat (first|refine oi ?_|refine ow ?_|refine wy ?_|refine wn ?_|refine wt ?_|refine wf' ?_|refine cy ?_|refine cn ?_)
  exact hk _ _ hO hv
set_option maxHeartbeats 1000000 in
theorem zAs(ok:d.Ok)(hs:s.length=64)(hd:d.done.length≤1000000)(hO:St H (Γ++DW pd pc vd d))(hv:zYB vd d)
  (hk:∀ H' vd',St H' (Γ++DW pd pc vd' (d.program a s).1)→zYB vd' (d.program a s).1→K (int (d.program a s).2) H'):wCall P zKc [ptr pd 0,int a,sec s] H K:=by
 apply zji; unfold zof
 unfold Dv.program at hk
 refine zHa hO ?_
 clear hO
 intro p5 H hO
 replace hO:St H ((Γ++[(p5,⟨by8 s,true⟩)])++DW pd pc vd d):=St.rot hO
 have i5:(Γ++[(p5,(⟨by8 s,true⟩:Blk))])[Γ.length+0]?=some (p5,⟨by8 s,true⟩):=zua rfl
 have fin:∀ {H:Heap} {Δ:List (Nat × Blk)},St H ((Γ++[(p5,⟨by8 s,true⟩)])++Δ)→St H (Γ++Δ):=fun h=>St.mid h
 generalize Γ++[(p5,(⟨by8 s,true⟩:Blk))]=Γ' at hO i5 fin
 refine zNp hO (zua (k:=0) rfl) ?_ ?_
 ·intro h
  rw[if_neg (fun h'=>h' h)] at hk
  refine zaa (show (zma P .eql 133 true).f _ _=some (.bool false) from rfl) ?_
  repeat (first|refine oi ?_|refine ow ?_|refine wy ?_|refine wn ?_|refine wt ?_|refine wf' ?_|refine cy ?_|refine cn ?_)
  refine zga hO (Γ'.length+0) (zua rfl) rfl ?_
  refine zEc (fun hb=>?_) (fun hb=>?_)
  ·rw[if_pos hb] at hk
   exact hk _ _ (fin hO) hv
  rw[if_neg (by rw[hb]; simp)] at hk
  repeat (first|refine oi ?_|refine ow ?_|refine wy ?_|refine wn ?_|refine wt ?_|refine wf' ?_|refine cy ?_|refine cn ?_)
  refine zMa hO (Γ'.length+1) (zua rfl) (zxA ok.c h) (by rw[zsa]; exact (Dv.cellOk ok.c h).s) (by omega) ?_
  refine zHf hO ?_
  intro H2 hO2
  refine⟨same_at hO (Γ'.length+1) (zua rfl) hO2 (Γ'.length+1) (zua rfl) (zFv _),?_⟩
  refine zaa (neS _ (Dv.cellOk ok.c h).s rfl) ?_
  clear hO
  refine zna (fun h1=>?_) (fun h1=>?_)
  ·rw[if_pos h1] at hk
   exact hk _ _ (fin hO2) hv
  rw[if_neg h1] at hk
  refine zGv ok hO2 ?_
  clear hO2
  intro H hO
  refine zaa zmc ?_
  rw[Bool.not_not]
  refine zEc (fun h2=>?_) (fun h2=>?_)
  ·rw[if_pos h2] at hk
   exact hk _ _ (fin hO) hv
  rw[if_neg (by rw[h2]; simp)] at hk
  refine zta hO (Γ.length+0) (zwa i5) (by rw[zsa]; exact hs) (by omega) ?_
  refine zZw (Dv.step_ok ok) h hs hd hO hv ?_
  clear hO
  intro H vd' hO hv'
  exact hk _ _ (fin hO) hv'
 ·intro h
  rw[if_pos h] at hk
  refine zaa (show (zma P .eql 133 true).f _ _=some (.bool true) from rfl) ?_
  repeat (first|refine oi ?_|refine ow ?_|refine wy ?_|refine wn ?_|refine wt ?_|refine wf' ?_|refine cy ?_|refine cn ?_)
  exact hk _ _ (fin hO) hv
end J
set_option maxRecDepth 100000
namespace J
open Go Go.Ab
variable{H:Heap}{Γ:List (Nat × Blk)}{K:VH}{v w x:Value}{xs ys:List Int}{j p:Nat}{e:Int}
variable{pd pc:Nat}{vd:Value}{d:Dv}{a:Int}{s:List Int}
def zan(cs:List Cell)(x:Nat × List Int):List Cell:=cs.set x.1 { cs.getD x.1 zPb with kept:=x.2 }
def zTa(cs:List Cell)(l:List (Nat × List Int)):List Cell:=l.foldl zan cs
theorem zrD{cs:List Cell}{x:Nat × List Int}(h:∀ c ∈ cs,c.Ok)(hx:x.2.length=64)(hn:x.1 < cs.length):∀ c ∈ zan cs x,c.Ok:=by
 refine zZm h ?_
 have:(cs.getD x.1 zPb).Ok:=by
  rw[List.getD_eq_getElem?_getD,List.getElem?_eq_getElem hn]; exact h _ (List.getElem_mem hn)
 exact⟨hx,this.s,this.w⟩
theorem zVd:∀ (l:List (Nat × List Int)) (cs:List Cell),(zTa cs l).length=cs.length
 | [],_=>rfl
 | x::l,cs=>by show (zTa (zan cs x) l).length=_; rw[zVd l]; exact List.length_set
theorem zbn:∀ (l:List (Nat × List Int)) (cs:List Cell),(∀ c ∈ cs,c.Ok)→(∀ x ∈ l,x.1 < cs.length∧x.2.length=64)→∀ c ∈ zTa cs l,c.Ok
 | [],_,h,_=>h
 | x::l,cs,h,hl=>by
  have h1:=hl x List.mem_cons_self
  refine zbn l (zan cs x) (zrD h h1.2 h1.1) ?_
  intro y hy
  show y.1 < (cs.set _ _).length∧_
  rw[List.length_set]
  exact hl y (List.mem_cons_of_mem _ hy)
theorem zau{l:List (Nat × List Int)}{x:Nat × List Int}{cs:List Cell}:zTa cs (l++[x])=zan (zTa cs l) x:=by simp[zTa]
def Dv.sync(d:Dv):Dv × Int:=if d.down=true then (d,62) else if d.step.down=true then (d.step,62) else ({ d.step with cells:=zTa d.cells d.done,done:=[] },0)
theorem Dv.sync_ok(ok:d.Ok):d.sync.1.Ok:=by
 unfold Dv.sync
 split
 ·exact ok
 split
 ·exact Dv.step_ok ok
 have oks:=Dv.step_ok ok
 refine⟨zbn _ _ ok.c ok.ds,by show (zTa _ _).length≤_; rw[zVd]; exact ok.n,?_,oks.m,oks.b⟩
 intro x hx
 cases hx
theorem zyF{vd:Value}{l:List (Nat × List Int)}(hv:Own 65 vd l.length (zxs l)){y:Nat}(h:y < l.length):∃ p c,vd=sl p 0 l.length c∧zhb vd (zxs l)=[(p,⟨zxs l,true⟩)]:=by
 rcases hv with⟨rfl,h0,_⟩|⟨p,rfl|rfl,_⟩
 ·omega
 ·exact⟨p,_,rfl,rfl⟩
 ·exact⟨p,_,rfl,rfl⟩
theorem zmH{l:List (Nat × List Int)}(hl:∀ x ∈ l,x.2.length=64){y:Nat}(h:y < l.length):((zxs l).drop (y * 65)).take 65=chg l[y]:=by
 have:=zMp (f:=chg) (o:=0) (m:=65) (fun c hc=>zys (hl c hc)) h (by omega)
 unfold zxs
 rw[Nat.add_zero] at this
 rw[this,List.drop_zero]
 exact List.take_of_length_le (Nat.le_of_eq (zys (hl _ (List.getElem_mem h))))
theorem zAA{l:List Cell}{i:Nat}:l.getD i zPb=({ d with cells:=l }:Dv).cell (i:Int):=by
 unfold Dv.cell
 rw[Int.toNat_natCast]
set_option maxHeartbeats 1000000 in
theorem zfy(ok:d.Ok)(hd:d.done.length≤1000000)(hO:St H (Γ++DW pd pc vd d))(hv:zYB vd d)
  (hk:∀ H' vd',St H' (Γ++DW pd pc vd' d.sync.1)→zYB vd' d.sync.1→K (int d.sync.2) H'):wCall P zwc [ptr pd 0] H K:=by
 apply zbk; unfold zoh
 unfold Dv.sync at hk
 refine zva (fun l' H'=>l'=[ptr pd 0,int 0]∧d.down=false∧d.step.down=false∧St H' (Γ++DW pd pc vd d.step)) ?_ ?_
 ·repeat (first|refine oi ?_|refine ow ?_|refine wy ?_|refine wn ?_|refine wt ?_|refine wf' ?_|refine cy ?_|refine cn ?_)
  refine zga hO (Γ.length+0) (zua rfl) rfl ?_
  cases hb:d.down with
  | true=>
   rw[if_pos hb] at hk
   repeat (first|refine oi ?_|refine ow ?_|refine wy ?_|refine wn ?_|refine wt ?_|refine wf' ?_|refine cy ?_|refine cn ?_)
   exact hk _ _ hO hv
  | false=>
   rw[if_neg (by rw[hb]; simp)] at hk
   refine zXa rfl ?_
   refine zGv ok hO ?_
   clear hO
   intro H hO
   refine zaa zmc ?_
   refine zaa zVa ?_
   rw[Bool.not_not]
   refine zEc (fun h2=>?_) (fun h2=>?_)
   ·rw[if_pos h2] at hk
    exact hk _ _ hO hv
   ·exact⟨rfl,rfl,h2,hO⟩
 clear hO
 rintro l' H ⟨rfl,hb,h2,hO⟩
 rw[if_neg (by rw[hb]; simp),if_neg (by rw[h2]; simp)] at hk
 try simp only[zia,zja]
 repeat (first|refine oi ?_|refine ow ?_|refine wy ?_|refine wn ?_|refine wt ?_|refine wf' ?_|refine cy ?_|refine cn ?_)
 refine zga hO (Γ.length+0) (zua rfl) rfl ?_
 refine zCa hv.lenSl ?_
 have oks:=Dv.step_ok ok
 have hds:∀ x ∈ d.done,x.2.length=64:=fun x hx=>(ok.ds x hx).2
 refine znh (fun k l' H'=>∃ y:Nat,y≤d.done.length∧k=d.done.length - y∧l'=[ptr pd 0,int 0,vd,int d.done.length,int y]∧St H' (Γ++DW pd pc vd { d.step with cells:=zTa d.cells (d.done.take y) })) _ _ ?_ d.done.length _ _ ⟨0,by omega,rfl,rfl,hO⟩
 clear hO
 rintro k l' H' ⟨y,hy,rfl,rfl,hO⟩
 unfold zqf
 try simp only[zia,zja]
 repeat (first|refine oi ?_|refine ow ?_|refine wy ?_|refine wn ?_|refine wt ?_|refine wf' ?_|refine cy ?_|refine cn ?_)
 refine zna (fun h=>?_) (fun h=>?_)
 ·have hyl:y < d.done.length:=by omega
  obtain⟨p,c,e1,e2⟩:=zyF hv hyl
  have hx:=ok.ds _ (List.getElem_mem hyl)
  have i2:(DW pd pc vd { d.step with cells:=zTa d.cells (d.done.take y) })[2]?=some (p,⟨zxs d.done,true⟩):=by
   show ([_,_]++zhb vd (zxs d.done))[2]?=_
   rw[e2]; rfl
  rw[e1]
  refine zaa (zfb (by omega) (by omega)) ?_
  rw[show 0+((y:Nat):Int).toNat * 65=y * 65 by rw[Int.toNat_natCast]; omega]
  rw[← e1]
  refine zMa hO (Γ.length+2) (zua i2) (zmH hds hyl) (zys hx.2) (by omega) ?_
  rw[zUI]
  refine zHa hO ?_
  clear hO
  intro p4 H hO
  refine zra hO ((Γ++DW pd pc vd { d.step with cells:=zTa d.cells (d.done.take y) }).length+0) (zua rfl) (by simp[zsa,zeros]) (zys hx.2) (zxF _) ?_
  clear hO
  intro H hO
  replace hO:=St.rot hO.set_r
  replace hO:St H ((Γ++[(p4,⟨chg d.done[y],true⟩)])++DW pd pc vd { d.step with cells:=zTa d.cells (d.done.take y) }):=hO
  have i4:(Γ++[(p4,(⟨chg d.done[y],true⟩:Blk))])[Γ.length+0]?=some (p4,⟨chg d.done[y],true⟩):=zua rfl
  have fin:∀ {H:Heap} {Δ:List (Nat × Blk)},St H ((Γ++[(p4,⟨chg d.done[y],true⟩)])++Δ)→St H (Γ++Δ):=fun h=>St.mid h
  generalize Γ++[(p4,(⟨chg d.done[y],true⟩:Blk))]=Γ' at hO i4 fin
  repeat (first|refine oi ?_|refine ow ?_|refine wy ?_|refine wn ?_|refine wt ?_|refine wf' ?_|refine cy ?_|refine cn ?_)
  refine zga hO (Γ'.length+0) (zua rfl) rfl ?_
  repeat (first|refine oi ?_|refine ow ?_|refine wy ?_|refine wn ?_|refine wt ?_|refine wf' ?_|refine cy ?_|refine cn ?_)
  refine zga hO (Γ.length+0) (zwa i4) rfl ?_
  repeat (first|refine oi ?_|refine ow ?_|refine wy ?_|refine wn ?_|refine wt ?_|refine wf' ?_|refine cy ?_|refine cn ?_)
  refine zMa hO (Γ.length+0) (zwa i4) (show ((chg d.done[y]).drop 1).take 64=by8 d.done[y].2 from ?_) (by rw[zsa]; exact hx.2) (by omega) ?_
  ·show (by8 d.done[y].2).take 64=_
   exact List.take_of_length_le (by rw[zsa,hx.2]; exact Nat.le_refl _)
  have hh:({ d.step with cells:=zTa d.cells (d.done.take y) }:Dv).has (d.done[y].1:Int):=⟨by omega,by
   show _ < ((zTa d.cells (d.done.take y)).length:Int)
   rw[zVd]; omega⟩
  have ok2:∀ c ∈ zTa d.cells (d.done.take y),c.Ok:=zbn _ _ ok.c (fun x hx=>ok.ds x (List.mem_of_mem_take hx))
  refine zaa (zfb hh.1 hh.2) ?_
  repeat (first|refine oi ?_|refine ow ?_|refine wy ?_|refine wn ?_|refine wt ?_|refine wf' ?_|refine cy ?_|refine cn ?_)
  rw[Nat.zero_add]
  refine zNc hO (Γ'.length+1) (zua rfl) (show (by8 d.done[y].2).length=64 by rw[zsa]; exact hx.2) (by have:=zzs ok2 (d:={ d.step with cells:=zTa d.cells (d.done.take y) }) hh; show _≤(zFh (zTa d.cells (d.done.take y))).length; simp only at this; omega) (zvd _) ?_
  clear hO
  intro H hO
  have e3:=zpD (d:={ d.step with cells:=zTa d.cells (d.done.take y) }) ok2 hh hx.2
  rw[zsa,hx.2] at e3
  replace hO:St H (Γ'++DW pd pc vd { d.step with cells:=zTa d.cells (d.done.take (y+1)) }):=by
   have h3:St H (Γ'++([(pd,⟨dv pc vd { d.step with cells:=zTa d.cells (d.done.take y) },true⟩),(pc,⟨(zFh (zTa d.cells (d.done.take y))).take ((d.done[y].1:Int).toNat * 129+0)++(by8 d.done[y].2++(zFh (zTa d.cells (d.done.take y))).drop ((d.done[y].1:Int).toNat * 129+0+64)),true⟩)]++zhb vd (zxs d.done))):=hO.set_r
   rw[e3] at h3
   have e4:zTa d.cells (d.done.take (y+1))=(zTa d.cells (d.done.take y)).set (d.done[y].1:Int).toNat { ({ d.step with cells:=zTa d.cells (d.done.take y) }:Dv).cell (d.done[y].1:Int) with kept:=d.done[y].2 }:=by
    rw[List.take_succ_eq_append_getElem hyl,zau]
    unfold zan
    rw[zAA (d:=d.step),Int.toNat_natCast]
   show St H (Γ'++([(pd,⟨[sl pc 0 (zTa d.cells (d.done.take (y+1))).length 259,vd,int d.step.most,int d.step.budget,.bool d.step.down],true⟩),(pc,⟨zFh (zTa d.cells (d.done.take (y+1))),true⟩)]++zhb vd (zxs d.done)))
   rw[zVd,e4]
   have h4:St H (Γ'++([(pd,⟨[sl pc 0 (zTa d.cells (d.done.take y)).length 259,vd,int d.step.most,int d.step.budget,.bool d.step.down],true⟩),(pc,⟨zFh ((zTa d.cells (d.done.take y)).set (d.done[y].1:Int).toNat { ({ d.step with cells:=zTa d.cells (d.done.take y) }:Dv).cell (d.done[y].1:Int) with kept:=d.done[y].2 }),true⟩)]++zhb vd (zxs d.done))):=h3
   rw[zVd] at h4
   exact h4
  repeat (first|refine oi ?_|refine ow ?_|refine wy ?_|refine wn ?_|refine wt ?_|refine wf' ?_|refine cy ?_|refine cn ?_)
  exact⟨_,by omega,y+1,by omega,rfl,rfl,fin hO⟩
 ·have ey:y=d.done.length:=by omega
  subst ey
  repeat (first|refine oi ?_|refine ow ?_|refine wy ?_|refine wn ?_|refine wt ?_|refine wf' ?_|refine cy ?_|refine cn ?_)
  refine zNa hO (Γ.length+0) (zua rfl) rfl (show 1 < 5 by omega) rfl ?_
  clear hO
  intro H hO
  rw[List.take_length] at hO
  refine hk _ zBa ?_ (.inl ⟨rfl,rfl,rfl⟩)
  have h3:St H (Γ++([(pd,⟨dv pc zBa { d.step with cells:=zTa d.cells d.done,done:=[] },true⟩),(pc,⟨zFh (zTa d.cells d.done),true⟩)]++zhb vd (zxs d.done))):=hO.set_r
  exact h3.sub (List.Sublist.append (List.Sublist.refl _) (List.Sublist.append (List.Sublist.refl _) (List.nil_sublist _)))
end J
set_option maxRecDepth 100000
namespace J
open Go Go.Ab
variable{H:Heap}{Γ:List (Nat × Blk)}{K:VH}{v w x:Value}{xs ys:List Int}{j p:Nat}{e:Int}
variable{pd pc:Nat}{vd:Value}{d:Dv}{a:Int}{s:List Int}
theorem zzF[lp:LpC]{o n c i q:Nat}{cs:List Value}{K:VH}(hO:St H Γ)(hi:Γ[i]?=some (q,⟨cs,true⟩))(hv:RdB Γ v ys)(hn:ys.length≤n)(hl:o+n≤cs.length)
  (hk:∀ H',St H' (Γ.set i (q,⟨cs.take o++(by8 ys++cs.drop (o+ys.length)),true⟩))→K (int ys.length) H'):opW (zTi 1 (sl q o n c) v H) K:=by
 obtain⟨H',hw,hs⟩:=zas hO (o:=o) (vs:=by8 ys) hi (by simp; omega) (by simp[oneCell])
 unfold zTi
 simp only[hv.lenA]
 have hm:Nat.min ys.length n=ys.length:=Nat.min_eq_left hn
 rw[hm]
 by_cases h0:ys.length=0
 ·have:ys=[]:=List.length_eq_zero_iff.1 h0
  subst this
  refine zCa (show some (Value.int .i64 0,H)=_ from rfl) ?_
  have hk:=hk H
  rw[show cs.take o++(by8 []++cs.drop (o+([]:List Int).length))=cs by simp[by8],zTC hi] at hk
  exact hk hO
 ·have hb:Nat.beq ys.length 0=false:=by
   cases hb:Nat.beq ys.length 0 with
   | false=>rfl
   | true=>exact absurd (Nat.eq_of_beq_eq_true hb) h0
  rw[hb]
  simp only[Bool.false_eq_true,if_false]
  rw[hv.elems hO]
  simp only
  rw[hw]
  refine zCa (show some (Value.int .i64 ((ys.length:Nat):Int),H')=_ from rfl) ?_
  rw[List.length_map] at hs
  exact hk _ hs
theorem zsD{Γ':List (Nat × Blk)}{d d':Dv}{cs:List Value}(hO:St H ((Γ'++DW pd pc vd d).set (Γ'.length+1) (pc,⟨cs,true⟩)))(hc:cs=zFh d'.cells)(hl:d'.cells.length=d.cells.length)(h1:d'.done=d.done)(h2:d'.most=d.most)(h3:d'.budget=d.budget)(h4:d'.down=d.down):St H (Γ'++DW pd pc vd d'):=by
 have h5:St H (Γ'++([(pd,⟨dv pc vd d,true⟩),(pc,⟨cs,true⟩)]++zhb vd (zxs d.done))):=hO.set_r
 have e:dv pc vd d=dv pc vd d':=by unfold dv; rw[hl,h2,h3,h4]
 rw[hc,e,← h1] at h5
 exact h5
end J
set_option maxRecDepth 100000
namespace J
open Go Go.Ab
variable{H:Heap}{Γ:List (Nat × Blk)}{K:VH}{v w x:Value}{xs ys:List Int}{j p:Nat}{e:Int}
variable{pd pc:Nat}{vd:Value}{d:Dv}{a:Int}{s:List Int}
theorem zAF:zRb P 111=⟨zrk 129 136 (cel zPb)⟩:=by kernel_rfl
theorem zbu{α:Type}(f:α→List Value)(z:α):∀ n:Nat,repl n (f z)=(List.replicate n z).flatMap f
 | 0=>rfl
 | n+1=>by
  show zhg (f z) (repl n (f z))=_
  rw[zQa,zbu f z n,List.replicate_succ,List.flatMap_cons]
theorem zRJ(n:Nat)(pc:Nat)(w:Int):(zxa P 114).f [(0,sl pc 0 n 259),(2,int w),(3,.int .i64 (-1))]=some (agg [sl pc 0 n 259,zBa,int w,int (-1),.bool false]):=by kernel_rfl
def zxf:Cell:=⟨blank,blank,0⟩
def Dv.new(n:Nat)(w:Int):Dv:=⟨List.replicate n zxf,[],w,-1,false⟩
theorem ztD:zPb.Ok:=⟨rfl,rfl,by decide⟩
theorem zGh:zxf.Ok:=⟨rfl,rfl,by decide⟩
theorem Dv.new_ok{n:Nat}{w:Int}(hn:n≤4096)(hw:w≤100000):(Dv.new n w).Ok:=by
 refine⟨fun c hc=>?_,by show (List.replicate n _).length≤_; rw[List.length_replicate]; exact hn,fun x hx=>(by cases hx),hw,by show -1≤(-1:Int)∧(-1:Int)≤_; omega⟩
 rw[(List.mem_replicate.1 hc).2]; exact zGh
set_option maxHeartbeats 1000000 in
theorem zBA{n w:Nat}(hn:n≤4096)(hw:w≤100000)(hO:St H Γ)(hk:∀ H' pd pc,St H' (Γ++DW pd pc zBa (Dv.new n w))→K (ptr pd 0) H'):wCall P zXh [int n,int w] H K:=by
 apply zQt; unfold zPt
 refine zCa zQx ?_
 refine zCa zOC ?_
 rw[show max (0:Int) (min (n:Int) 4096)=n by omega,zAF]
 refine zuv (k:=.i64) (k':=.i64) hO (by omega) (by omega) ?_
 clear hO
 intro pc H hO
 refine zCa zQx ?_
 refine zCa zOC ?_
 rw[show max (0:Int) (min (w:Int) 100000)=w by omega]
 refine zaa (zRJ n pc w) ?_
 refine zHa hO ?_
 clear hO
 intro pd H hO
 repeat (first|refine oi ?_|refine ow ?_|refine wy ?_|refine wn ?_|refine wt ?_|refine wf' ?_|refine cy ?_|refine cn ?_)
 refine zga hO ((Γ++[(pc,(⟨repl n (cel zPb),true⟩:Blk))]).length+0) (zua rfl) rfl ?_
 repeat (first|refine oi ?_|refine ow ?_|refine wy ?_|refine wn ?_|refine wt ?_|refine wf' ?_|refine cy ?_|refine cn ?_)
 rw[zbu] at hO
 replace hO:St H (Γ++DW pd pc zBa { Dv.new n w with cells:=List.replicate n zPb }):=by
  have h3:St H ((Γ++[(pc,⟨zFh (List.replicate n zPb),true⟩)])++[(pd,⟨[sl pc 0 n 259,zBa,int w,int (-1),.bool false],true⟩)]):=hO
  have h4:=h3.rot
  rw[List.append_assoc] at h4
  have e:dv pc zBa { Dv.new n w with cells:=List.replicate n zPb }=[sl pc 0 n 259,zBa,int w,int (-1),.bool false]:=by unfold dv; rw[List.length_replicate]; rfl
  show St H (Γ++([(pd,⟨dv pc zBa { Dv.new n w with cells:=List.replicate n zPb },true⟩),(pc,⟨zFh (List.replicate n zPb),true⟩)]++[]))
  rw[e]
  exact h4
 refine zZn (fun k l' H'=>∃ y:Nat,y≤n∧k=n - y∧l'=[.pointer none,ptr pd 0,int n,int y]∧St H' (Γ++DW pd pc zBa { Dv.new n w with cells:=List.replicate y zxf++List.replicate (n - y) zPb })) _ _ ?_ n _ _ ⟨0,by omega,rfl,rfl,hO⟩
 clear hO
 rintro k l' H' ⟨y,hy,rfl,rfl,hO⟩
 unfold zGn
 try simp only[zia,zja]
 repeat (first|refine oi ?_|refine ow ?_|refine wy ?_|refine wn ?_|refine wt ?_|refine wf' ?_|refine cy ?_|refine cn ?_)
 refine zna (fun h=>?_) (fun h=>?_)
 ·have hyl:y < n:=by omega
  generalize hC:List.replicate y zxf++List.replicate (n - y) zPb=C at *
  have hCl:C.length=n:=by rw[← hC]; simp; omega
  have okC:∀ c ∈ C,c.Ok:=by
   intro c hc
   rw[← hC] at hc
   rcases List.mem_append.1 hc with hc|hc
   ·rw[(List.mem_replicate.1 hc).2]; exact zGh
   ·rw[(List.mem_replicate.1 hc).2]; exact ztD
  repeat (first|refine oi ?_|refine ow ?_|refine wy ?_|refine wn ?_|refine wt ?_|refine wf' ?_|refine cy ?_|refine cn ?_)
  refine zga hO (Γ.length+0) (zua rfl) rfl ?_
  refine zHf hO ?_
  intro H2 hO2
  refine⟨same_at hO (Γ.length+0) (zua rfl) hO2 (Γ.length+0) (zua rfl) rfl,?_⟩
  clear hO
  refine zHf hO2 ?_
  intro H3 hO3
  refine⟨same_at hO2 (Γ.length+0) (zua rfl) hO3 (Γ.length+0) (zua rfl) rfl,?_⟩
  clear hO2
  refine zaa (zTI (s:=blank) (s':=blank) rfl rfl) ?_
  refine zaa (zfb (by omega) (by show (y:Int) < (C.length:Int); omega)) ?_
  have hcl:(zFh C).length=n * 129:=by rw[zYw okC,hCl]
  have hcy:=zAo (f:=cel) (l:=C) (i:=y) (o:=0) (y:=zxf) (new:=cel zxf) (fun c hc=>zkf (okC c hc)) (by omega) (by rw[zkf zGh]; omega) (by rw[List.drop_of_length_le (by rw[zkf zGh,zkf (okC _ (List.getElem_mem _))]; omega)]; simp)
  rw[zkf zGh] at hcy
  refine zNc hO3 (Γ.length+1) (zua rfl) (show (cel zxf).length=129 from zkf zGh) (by show _≤(zFh C).length; rw[hcl]; omega) (zwF _) ?_
  clear hO3
  intro H hO
  repeat (first|refine oi ?_|refine ow ?_|refine wy ?_|refine wn ?_|refine wt ?_|refine wf' ?_|refine cy ?_|refine cn ?_)
  refine⟨_,by omega,y+1,by omega,rfl,rfl,zsD (d':={ Dv.new n w with cells:=List.replicate (y+1) zxf++List.replicate (n - (y+1)) zPb }) hO ?_ ?_ rfl rfl rfl rfl⟩
  ·have e1:0+(y:Int).toNat * 129=y * 129+0:=by rw[Int.toNat_natCast]; omega
   rw[e1]
   refine hcy.trans ?_
   show (C.set y zxf).flatMap cel=zFh (List.replicate (y+1) zxf++List.replicate (n - (y+1)) zPb)
   rw[← hC,List.set_append_right _ _ (by simp),List.length_replicate,Nat.sub_self,show n - y=(n - (y+1))+1 by omega,List.replicate_succ,List.set_cons_zero,List.replicate_succ']
   simp[zFh]
  ·show (_++_:List Cell).length=C.length
   rw[hCl]; simp; omega
 ·have ey:y=n:=by omega
  subst ey
  rw[Nat.sub_self,List.replicate_zero,List.append_nil] at hO
  repeat (first|refine oi ?_|refine ow ?_|refine wy ?_|refine wn ?_|refine wt ?_|refine wf' ?_|refine cy ?_|refine cn ?_)
  exact hk _ pd pc hO
end J
set_option maxRecDepth 100000
namespace J
open Go Go.Ab
variable{H:Heap}{Γ:List (Nat × Blk)}{K:VH}{v w x:Value}{xs ys:List Int}{j p:Nat}{e:Int}
structure Op where
 kind:Int
 part:Int
 pos:Int
 who:Int
structure Mp where
 d:Dv
 spans:List (Nat × Nat)
 who:Int
 ops:List Op
def opC(o:Op):List Value:=[int o.kind,int o.part,int o.pos,int o.who]
def zOp(l:List Op):List Value:=l.flatMap opC
def spC(l:List (Nat × Nat)):List Value:=l.flatMap fun x=>[int x.1,int x.2]
structure Mloc where
 pm:Nat
 pd:Nat
 pc:Nat
 ps:Nat
 vd:Value
 vo:Value
def mv(L:Mloc)(m:Mp):List Value:=[ptr L.pd 0,sl L.ps 0 m.spans.length 4,int m.who,L.vo]
abbrev MA(L:Mloc)(m:Mp):List (Nat × Blk):=[(L.pm,⟨mv L m,true⟩),(L.ps,⟨spC m.spans,true⟩)]
abbrev MW(L:Mloc)(m:Mp):List (Nat × Blk):=MA L m++(zhb L.vo (zOp m.ops)++DW L.pd L.pc L.vd m.d)
structure Mown (L:Mloc) (m:Mp):Prop where
 d:zYB L.vd m.d
 o:Own 4 L.vo m.ops.length (zOp m.ops)
structure Mloc.Eq (L L':Mloc):Prop where
 m:L'.pm=L.pm
 d:L'.pd=L.pd
 c:L'.pc=L.pc
 s:L'.ps=L.ps
structure Mp.Ok (m:Mp):Prop where
 d:m.d.Ok
 s:∀ x ∈ m.spans,x.1+x.2≤m.d.cells.length
 n:m.spans.length≤16
def Mp.Sm(m:Mp)(N:Nat):Prop:=m.d.done.length≤N∧m.ops.length≤N
variable{L:Mloc}{m:Mp}{part pos:Int}
theorem MW.toD(h:St H (Γ++MW L m)):St H (((Γ++MA L m)++zhb L.vo (zOp m.ops))++DW L.pd L.pc L.vd m.d):=by
 rw[List.append_assoc,List.append_assoc]; exact h
theorem MW.ofD(h:St H (((Γ++MA L m)++zhb L.vo (zOp m.ops))++DW L.pd L.pc L.vd m.d)):St H (Γ++MW L m):=by
 rw[List.append_assoc,List.append_assoc] at h; exact h
def Mp.has(m:Mp)(part:Int):Prop:=0≤part∧part < m.spans.length
instance:Decidable (m.has part):=by unfold Mp.has; infer_instance
def Mp.span(m:Mp)(part:Int):Nat × Nat:=m.spans.getD part.toNat (0,0)
def Mp.size(m:Mp)(part:Int):Nat:=if m.has part then (m.span part).2 else 0
theorem Mp.span_mem(h:m.has part):m.span part ∈ m.spans:=by
 unfold Mp.span
 have:part.toNat < m.spans.length:=by have:=h.1; have:=h.2; omega
 rw[List.getD_eq_getElem?_getD,List.getElem?_eq_getElem this]
 exact List.getElem_mem this
theorem zIv(h:m.has part):(spC m.spans)[part.toNat * 2+0]?=some (int (m.span part).1)∧(spC m.spans)[part.toNat * 2+1]?=some (int (m.span part).2):=by
 have hi:part.toNat < m.spans.length:=by have:=h.1; have:=h.2; omega
 have e:m.span part=m.spans[part.toNat]:=by unfold Mp.span; rw[List.getD_eq_getElem?_getD,List.getElem?_eq_getElem hi]; rfl
 unfold spC
 rw[flat_get (n:=2) (fun _ _=>rfl) hi (by omega),flat_get (n:=2) (fun _ _=>rfl) hi (by omega),e]
 exact⟨rfl,rfl⟩
theorem zcu(hO:St H (Γ++MW L m))(hk:K (ptr L.pd 0) H):wCall P zHe [ptr L.pm 0] H K:=by
 apply zUl; unfold znj
 repeat (first|refine oi ?_|refine ow ?_|refine wy ?_|refine wn ?_|refine wt ?_|refine wf' ?_|refine cy ?_|refine cn ?_)
 refine zga hO (Γ.length+0) (zua rfl) rfl ?_
 exact hk
theorem zdu(hO:St H (Γ++MW L m))(hk:K (.bool (decide (m.has part))) H):wCall P zSe [ptr L.pm 0,int part] H K:=by
 apply zGp; unfold zIn
 repeat (first|refine oi ?_|refine ow ?_|refine wy ?_|refine wn ?_|refine wt ?_|refine wf' ?_|refine cy ?_|refine cn ?_)
 refine zna (fun h=>?_) (fun h=>?_)
 ·repeat (first|refine oi ?_|refine ow ?_|refine wy ?_|refine wn ?_|refine wt ?_|refine wf' ?_|refine cy ?_|refine cn ?_)
  refine zga hO (Γ.length+0) (zua rfl) rfl ?_
  repeat (first|refine oi ?_|refine ow ?_|refine wy ?_|refine wn ?_|refine wt ?_|refine wf' ?_|refine cy ?_|refine cn ?_)
  rw[decide_eq_decide.2 (show part < (m.spans.length:Int)↔m.has part from⟨fun h2=>⟨h,h2⟩,fun h2=>h2.2⟩)]
  exact hk
 ·repeat (first|refine oi ?_|refine ow ?_|refine wy ?_|refine wn ?_|refine wt ?_|refine wf' ?_|refine cy ?_|refine cn ?_)
  rw[decide_eq_false (show ¬ m.has part from fun h2=>h h2.1)] at hk
  exact hk
theorem zgr(hO:St H (Γ++MW L m))(hk:K (int (m.size part)) H):wCall P zme [ptr L.pm 0,int part] H K:=by
 apply zbo; unfold zXl
 refine zdu hO ?_
 unfold Mp.size at hk
 refine zaa zmc ?_
 by_cases h:m.has part
 ·rw[if_pos h] at hk
  rw[decide_eq_true h]
  refine zXa rfl ?_
  repeat (first|refine oi ?_|refine ow ?_|refine wy ?_|refine wn ?_|refine wt ?_|refine wf' ?_|refine cy ?_|refine cn ?_)
  refine zga hO (Γ.length+0) (zua rfl) rfl ?_
  refine zaa (zfb h.1 h.2) ?_
  repeat (first|refine oi ?_|refine ow ?_|refine wy ?_|refine wn ?_|refine wt ?_|refine wf' ?_|refine cy ?_|refine cn ?_)
  rw[Nat.zero_add]
  refine zga hO (Γ.length+1) (zua rfl) (zIv h).2 ?_
  exact hk
 ·rw[if_neg h] at hk
  rw[decide_eq_false h]
  exact zsc rfl hk
def Mp.place(m:Mp)(part pos:Int):Int × Int:=if ¬ m.has part then (0,71) else if pos < 0∨(m.span part).2≤pos then (0,61) else ((m.span part).1+pos,0)
theorem zkl(ok:m.Ok)(hO:St H (Γ++MW L m))(hk:K (.tuple [int (m.place part pos).1,int (m.place part pos).2].toArray) H):wCall P zFc [ptr L.pm 0,int part,int pos] H K:=by
 apply zRm; unfold zAk
 refine zdu hO ?_
 unfold Mp.place at hk
 refine zaa zmc ?_
 by_cases h:m.has part
 ·rw[if_neg (fun h'=>h' h)] at hk
  rw[decide_eq_true h]
  refine zXa rfl ?_
  refine zva (fun l' H'=>l'=[ptr L.pm 0,int part,int pos,.bool (decide (pos < 0∨(m.span part).2≤pos))]∧H'=H) ?_ ?_
  ·repeat (first|refine oi ?_|refine ow ?_|refine wy ?_|refine wn ?_|refine wt ?_|refine wf' ?_|refine cy ?_|refine cn ?_)
   refine zna (fun h1=>?_) (fun h1=>?_)
   ·repeat (first|refine oi ?_|refine ow ?_|refine wy ?_|refine wn ?_|refine wt ?_|refine wf' ?_|refine cy ?_|refine cn ?_)
    exact⟨by rw[decide_eq_true (.inl h1)],rfl⟩
   ·repeat (first|refine oi ?_|refine ow ?_|refine wy ?_|refine wn ?_|refine wt ?_|refine wf' ?_|refine cy ?_|refine cn ?_)
    refine zga hO (Γ.length+0) (zua rfl) rfl ?_
    refine zaa (zfb h.1 h.2) ?_
    repeat (first|refine oi ?_|refine ow ?_|refine wy ?_|refine wn ?_|refine wt ?_|refine wf' ?_|refine cy ?_|refine cn ?_)
    rw[Nat.zero_add]
    refine zga hO (Γ.length+1) (zua rfl) (zIv h).2 ?_
    repeat (first|refine oi ?_|refine ow ?_|refine wy ?_|refine wn ?_|refine wt ?_|refine wf' ?_|refine cy ?_|refine cn ?_)
    exact⟨by rw[decide_eq_decide.2 (show ((m.span part).2:Int)≤pos↔(pos < 0∨(m.span part).2≤pos) by omega)],rfl⟩
  rintro l' H' ⟨rfl,rfl⟩
  try simp only[zia,zja]
  refine zna (fun h1=>?_) (fun h1=>?_)
  ·rw[if_pos h1] at hk
   exact hk
  ·rw[if_neg h1] at hk
   repeat (first|refine oi ?_|refine ow ?_|refine wy ?_|refine wn ?_|refine wt ?_|refine wf' ?_|refine cy ?_|refine cn ?_)
   refine zga hO (Γ.length+0) (zua rfl) rfl ?_
   refine zaa (zfb h.1 h.2) ?_
   repeat (first|refine oi ?_|refine ow ?_|refine wy ?_|refine wn ?_|refine wt ?_|refine wf' ?_|refine cy ?_|refine cn ?_)
   rw[Nat.zero_add]
   refine zga hO (Γ.length+1) (zua rfl) (zIv h).1 ?_
   have:=ok.s _ (Mp.span_mem h)
   have:=ok.d.n
   repeat (first|refine oi ?_|refine ow ?_|refine wy ?_|refine wn ?_|refine wt ?_|refine wf' ?_|refine cy ?_|refine cn ?_)
   exact hk
 ·rw[if_pos h] at hk
  rw[decide_eq_false h]
  exact zsc rfl hk
def Mp.read(m:Mp)(part pos:Int):List Int × Int:=if (m.place part pos).2≠0 then (zeros,(m.place part pos).2) else m.d.read (m.place part pos).1
theorem Dv.read_len{d:Dv}(ok:d.Ok){a:Int}:(d.read a).1.length=64:=by
 unfold Dv.read
 by_cases h:d.has a
 ·rw[if_pos h]; exact (Dv.cellOk ok.c h).s
 ·rw[if_neg h]; rfl
theorem Mp.read_len(ok:m.Ok):(m.read part pos).1.length=64:=by
 unfold Mp.read
 split
 ·rfl
 ·exact Dv.read_len ok.d
theorem zhr(ok:m.Ok)(hO:St H (Γ++MW L m))(hk:∀ H',St H' (Γ++MW L m)→K (.tuple [sec (m.read part pos).1,int (m.read part pos).2].toArray) H'):wCall P zne [ptr L.pm 0,int part,int pos] H K:=by
 apply zco; unfold zYl
 rw[zcS]
 refine zHa hO ?_
 clear hO
 intro p6 H hO
 replace hO:=hO.rot
 have i6:(Γ++[(p6,(⟨by8 zeros,true⟩:Blk))])[Γ.length+0]?=some (p6,⟨by8 zeros,true⟩):=zua rfl
 refine zkl ok hO ?_
 refine zaa zXt ?_
 refine zaa zYt ?_
 refine zaa zGb ?_
 unfold Mp.read at hk
 refine zna (fun h=>?_) (fun h=>?_)
 ·rw[if_pos h] at hk
  refine zaa bS ?_
  refine zra hO (Γ.length+0) (zwa i6) (by rw[zsa]; rfl) (by rw[zsa]; rfl) (zvd _) ?_
  clear hO
  intro H hO
  rw[List.set_append_left _ _ (by simp),Go.Ab.set_r] at hO
  refine zta hO (Γ.length+0) (zwa (zua rfl)) (by rw[zsa]; rfl) (by omega) ?_
  exact hk _ (St.mid hO)
 ·rw[if_neg h] at hk
  repeat (first|refine oi ?_|refine ow ?_|refine wy ?_|refine wn ?_|refine wt ?_|refine wf' ?_|refine cy ?_|refine cn ?_)
  refine zga hO ((Γ++[(p6,(⟨by8 zeros,true⟩:Blk))]).length+0) (zua rfl) rfl ?_
  refine zey ok.d.c (MW.toD hO) ?_
  clear hO
  intro H hO
  replace hO:=MW.ofD hO
  refine zaa zXt ?_
  refine zaa zYt ?_
  have hl:=Dv.read_len ok.d (a:=(m.place part pos).1)
  refine zra hO (Γ.length+0) (zwa i6) (by rw[zsa]; rfl) (by rw[zsa]; exact hl) (zvd _) ?_
  clear hO
  intro H hO
  rw[List.set_append_left _ _ (by simp),Go.Ab.set_r] at hO
  refine zta hO (Γ.length+0) (zwa (zua rfl)) (by rw[zsa]; exact hl) (by omega) ?_
  exact hk _ (St.mid hO)
def Mp.note(m:Mp)(o:Op)(e:Int):Mp:=if e=0 then { m with ops:=m.ops++[{ o with who:=m.who }] } else m
theorem zSJ(o:Op)(H:Heap):(zoa P 66 1).f [(0,agg (opC o))] H=some (sl H.next 0 1 9,H.push (opC o)):=by kernel_rfl
theorem bOp(a b c:Int):(zxa P 79).f [(0,int a),(1,int b),(2,int c)]=some (agg (opC ⟨a,b,c,0⟩)):=by kernel_rfl
theorem zCA(l:List Op)(o:Op):zOp l++opC o=zOp (l++[o]):=by simp[zOp]
theorem zeu{o:Op}(hs:m.ops.length≤1000000000)(hO:St H (Γ++MW L m))(hv:Mown L m)
  (hk:∀ H' L',L.Eq L'→St H' (Γ++MW L' (m.note o e))→Mown L' (m.note o e)→K (int e) H'):wCall P zle [ptr L.pm 0,agg (opC o),int e] H K:=by
 apply zao; unfold zWl
 refine zHa hO ?_
 clear hO
 intro p4 H hO
 replace hO:=hO.rot
 have i4:(Γ++[(p4,(⟨opC o,true⟩:Blk))])[Γ.length+0]?=some (p4,⟨opC o,true⟩):=zua rfl
 replace hO:St H ((Γ++[(p4,⟨opC o,true⟩)])++MW L m):=hO
 refine zaa zib ?_
 unfold Mp.note at hk
 refine zna (fun h=>?_) (fun h=>?_)
 ·rw[if_pos h] at hk
  repeat (first|refine oi ?_|refine ow ?_|refine wy ?_|refine wn ?_|refine wt ?_|refine wf' ?_|refine cy ?_|refine cn ?_)
  refine zga hO ((Γ++[(p4,(⟨opC o,true⟩:Blk))]).length+0) (zua rfl) rfl ?_
  repeat (first|refine oi ?_|refine ow ?_|refine wy ?_|refine wn ?_|refine wt ?_|refine wf' ?_|refine cy ?_|refine cn ?_)
  refine zNa hO (Γ.length+0) (zwa i4) rfl (show 3 < 4 by omega) (show _=opC { o with who:=m.who } from rfl) ?_
  clear hO
  intro H hO
  rw[List.set_append_left _ _ (by simp),Go.Ab.set_r] at hO
  replace hO:St H ((Γ++[(p4,⟨opC { o with who:=m.who },true⟩)])++MW L m):=hO
  clear i4
  have i4:(Γ++[(p4,(⟨opC { o with who:=m.who },true⟩:Blk))])[Γ.length+0]?=some (p4,⟨opC { o with who:=m.who },true⟩):=zua rfl
  have fin:∀ {H:Heap} {Δ:List (Nat × Blk)},St H ((Γ++[(p4,⟨opC { o with who:=m.who },true⟩)])++Δ)→St H (Γ++Δ):=fun h=>St.mid h
  generalize Γ++[(p4,(⟨opC { o with who:=m.who },true⟩:Blk))]=Γ' at hO i4 fin
  repeat (first|refine oi ?_|refine ow ?_|refine wy ?_|refine wn ?_|refine wt ?_|refine wf' ?_|refine cy ?_|refine cn ?_)
  refine zga hO (Γ'.length+0) (zua rfl) rfl ?_
  refine zta hO (Γ.length+0) (zwa i4) rfl (by omega) ?_
  have hO':St H (((Γ'++MA L m)++DW L.pd L.pc L.vd m.d)++zhb L.vo (zOp m.ops)):=(MW.toD hO).rot
  refine zbb hO' (zSJ _ _) ?_
  clear hO hO'
  intro q H hO
  refine zLe hO hv.o rfl (by omega) rfl (by omega) (by omega) ?_
  clear hO
  intro vo' H hO hvo
  repeat (first|refine oi ?_|refine ow ?_|refine wy ?_|refine wn ?_|refine wt ?_|refine wf' ?_|refine cy ?_|refine cn ?_)
  obtain⟨a1,n1,c1,e1⟩:∃ a1 n1 c1,vo'=.slice a1 n1 c1:=by rcases hvo with⟨_,h,_⟩|⟨p,rfl|rfl,_⟩; omega; exact⟨_,_,_,rfl⟩; exact⟨_,_,_,rfl⟩
  refine zNa hO (Γ'.length+0) (zwa (zwa (zua rfl))) (by rw[e1]; rfl) (show 3 < 4 by omega) rfl ?_
  clear hO
  intro H hO
  rw[List.set_append_left _ _ (by simp),List.set_append_left _ _ (by simp),Go.Ab.set_r] at hO
  rw[zCA] at hO hvo
  have h3:St H (((Γ'++MA ⟨L.pm,L.pd,L.pc,L.ps,L.vd,vo'⟩ m)++DW L.pd L.pc L.vd m.d)++zhb vo' (zOp (m.ops++[{ o with who:=m.who }]))):=hO
  refine hk H ⟨L.pm,L.pd,L.pc,L.ps,L.vd,vo'⟩ ⟨rfl,rfl,rfl,rfl⟩ (fin (MW.ofD (m:={ m with ops:=m.ops++[{ o with who:=m.who }] }) h3.rot)) ⟨hv.d,?_⟩
  show Own 4 vo' (m.ops++[_]).length _
  rw[List.length_append]
  exact hvo
 ·rw[if_neg h] at hk
  exact hk _ L ⟨rfl,rfl,rfl,rfl⟩ (St.mid hO) hv
end J
set_option maxRecDepth 100000
namespace J
open Go Go.Ab
variable{H:Heap}{Γ:List (Nat × Blk)}{K:VH}{v w x:Value}{xs ys:List Int}{j p:Nat}{e:Int}
variable{L:Mloc}{m:Mp}{part pos:Int}{s:List Int}
def Mp.erase(m:Mp)(part pos:Int):Mp × Int:=if (m.place part pos).2≠0 then (m,(m.place part pos).2) else (({ m with d:=(m.d.erase (m.place part pos).1).1 }:Mp).note ⟨1,part,pos,0⟩ (m.d.erase (m.place part pos).1).2,(m.d.erase (m.place part pos).1).2)
def Mp.program(m:Mp)(part pos:Int)(s:List Int):Mp × Int:=if (m.place part pos).2≠0 then (m,(m.place part pos).2) else (({ m with d:=(m.d.program (m.place part pos).1 s).1 }:Mp).note ⟨2,part,pos,0⟩ (m.d.program (m.place part pos).1 s).2,(m.d.program (m.place part pos).1 s).2)
def Mp.sync(m:Mp):Mp × Int:=({ m with d:=m.d.sync.1 },m.d.sync.2)
theorem Dv.erase_len{d:Dv}{a:Int}:(d.erase a).1.cells.length=d.cells.length:=by
 unfold Dv.erase
 split
 ·rfl
 split
 ·rfl
 split
 ·rfl
 split
 ·rfl
 show ((d.step.cells.set _ _).set _ _).length=_
 rw[List.length_set,List.length_set]; rfl
theorem Dv.program_len{d:Dv}{a:Int}:(d.program a s).1.cells.length=d.cells.length:=by
 unfold Dv.program
 split
 ·rfl
 split
 ·rfl
 split
 ·rfl
 split
 ·rfl
 show (d.step.cells.set _ _).length=_
 rw[List.length_set]; rfl
theorem Dv.sync_len{d:Dv}:d.sync.1.cells.length=d.cells.length:=by
 unfold Dv.sync
 split
 ·rfl
 split
 ·rfl
 exact zVd _ _
theorem Dv.erase_done{d:Dv}{a:Int}:(d.erase a).1.done.length≤d.done.length+1:=by
 unfold Dv.erase
 split
 ·exact Nat.le_succ _
 split
 ·exact Nat.le_succ _
 split
 ·exact Nat.le_succ _
 split
 ·exact Nat.le_succ _
 show (d.done++[_]).length≤_
 simp
theorem Dv.program_done{d:Dv}{a:Int}:(d.program a s).1.done.length≤d.done.length+1:=by
 unfold Dv.program
 split
 ·exact Nat.le_succ _
 split
 ·exact Nat.le_succ _
 split
 ·exact Nat.le_succ _
 split
 ·exact Nat.le_succ _
 show (d.done++[_]).length≤_
 simp
theorem Dv.sync_done{d:Dv}:d.sync.1.done.length≤d.done.length:=by
 unfold Dv.sync
 split
 ·exact Nat.le_refl _
 split
 ·exact Nat.le_refl _
 exact Nat.zero_le _
theorem Mp.note_d{o:Op}:(m.note o e).d=m.d:=by unfold Mp.note; split <;> rfl
theorem Mp.note_s{o:Op}:(m.note o e).spans=m.spans:=by unfold Mp.note; split <;> rfl
theorem Mp.note_ops{o:Op}:(m.note o e).ops.length≤m.ops.length+1:=by
 unfold Mp.note; split
 ·simp
 ·exact Nat.le_succ _
theorem Mp.erase_s:(m.erase part pos).1.spans=m.spans:=by unfold Mp.erase; split; rfl; exact Mp.note_s
theorem Mp.program_s:(m.program part pos s).1.spans=m.spans:=by unfold Mp.program; split; rfl; exact Mp.note_s
theorem Mp.note_ok{o:Op}(ok:m.Ok):(m.note o e).Ok:=⟨by rw[Mp.note_d]; exact ok.d,by rw[Mp.note_d,Mp.note_s]; exact ok.s,by rw[Mp.note_s]; exact ok.n⟩
theorem Mp.erase_ok(ok:m.Ok):(m.erase part pos).1.Ok:=by
 unfold Mp.erase
 split
 ·exact ok
 ·exact Mp.note_ok ⟨Dv.erase_ok ok.d,by rw[Dv.erase_len]; exact ok.s,ok.n⟩
theorem Mp.program_ok(ok:m.Ok)(hs:s.length=64):(m.program part pos s).1.Ok:=by
 unfold Mp.program
 split
 ·exact ok
 ·exact Mp.note_ok ⟨Dv.program_ok ok.d hs,by rw[Dv.program_len]; exact ok.s,ok.n⟩
theorem Mp.sync_ok(ok:m.Ok):m.sync.1.Ok:=⟨Dv.sync_ok ok.d,by show ∀ x ∈ m.spans,_≤m.d.sync.1.cells.length; rw[Dv.sync_len]; exact ok.s,ok.n⟩
theorem Mp.Sm.mono{N M:Nat}(h:m.Sm N)(hm:N≤M):m.Sm M:=⟨Nat.le_trans h.1 hm,Nat.le_trans h.2 hm⟩
theorem Mp.erase_sm{N:Nat}(h:m.Sm N):(m.erase part pos).1.Sm (N+1):=by
 unfold Mp.erase
 split
 ·exact h.mono (Nat.le_succ _)
 ·refine⟨?_,Nat.le_trans Mp.note_ops (Nat.succ_le_succ h.2)⟩
  rw[Mp.note_d]
  exact Nat.le_trans Dv.erase_done (Nat.succ_le_succ h.1)
theorem Mp.program_sm{N:Nat}(h:m.Sm N):(m.program part pos s).1.Sm (N+1):=by
 unfold Mp.program
 split
 ·exact h.mono (Nat.le_succ _)
 ·refine⟨?_,Nat.le_trans Mp.note_ops (Nat.succ_le_succ h.2)⟩
  rw[Mp.note_d]
  exact Nat.le_trans Dv.program_done (Nat.succ_le_succ h.1)
theorem Mp.sync_sm{N:Nat}(h:m.Sm N):m.sync.1.Sm N:=⟨Nat.le_trans Dv.sync_done h.1,h.2⟩
theorem Mloc.Eq.rfl':L.Eq L:=⟨rfl,rfl,rfl,rfl⟩
theorem Mloc.Eq.trans{L L' L'':Mloc}(h:L.Eq L')(h':L'.Eq L''):L.Eq L'':=⟨h'.m.trans h.m,h'.d.trans h.d,h'.c.trans h.c,h'.s.trans h.s⟩
theorem MW.dev{d':Dv}{vd':Value}(h:St H (((Γ++MA L m)++zhb L.vo (zOp m.ops))++DW L.pd L.pc vd' d')):St H (Γ++MW { L with vd:=vd' } { m with d:=d' }):=MW.ofD (L:={ L with vd:=vd' }) (m:={ m with d:=d' }) h
theorem zJv(ok:m.Ok)(hs:m.Sm 1000000)(hO:St H (Γ++MW L m))(hv:Mown L m)
  (hk:∀ H' L',L.Eq L'→St H' (Γ++MW L' (m.erase part pos).1)→Mown L' (m.erase part pos).1→K (int (m.erase part pos).2) H'):wCall P zif [ptr L.pm 0,int part,int pos] H K:=by
 apply zWm; unfold zFk
 refine zkl ok hO ?_
 refine zaa zXt ?_
 refine zaa zYt ?_
 refine zaa zGb ?_
 unfold Mp.erase at hk
 refine zna (fun h=>?_) (fun h=>?_)
 ·rw[if_pos h] at hk
  exact hk _ L Mloc.Eq.rfl' hO hv
 ·rw[if_neg h] at hk
  refine zaa (bOp _ _ _) ?_
  repeat (first|refine oi ?_|refine ow ?_|refine wy ?_|refine wn ?_|refine wt ?_|refine wf' ?_|refine cy ?_|refine cn ?_)
  refine zga hO (Γ.length+0) (zua rfl) rfl ?_
  refine zHv ok.d hs.1 (MW.toD hO) hv.d ?_
  clear hO
  intro H vd' hO hvd
  refine zeu (L:={ L with vd:=vd' }) (m:={ m with d:=(m.d.erase (m.place part pos).1).1 }) (by have:=hs.2; show m.ops.length≤_; omega) (MW.dev hO) ⟨hvd,hv.o⟩ ?_
  clear hO
  intro H L' he hO hv'
  exact hk _ L' ⟨he.m,he.d,he.c,he.s⟩ hO hv'
theorem zjm(ok:m.Ok)(hl:s.length=64)(hs:m.Sm 1000000)(hO:St H (Γ++MW L m))(hv:Mown L m)
  (hk:∀ H' L',L.Eq L'→St H' (Γ++MW L' (m.program part pos s).1)→Mown L' (m.program part pos s).1→K (int (m.program part pos s).2) H'):wCall P zDb [ptr L.pm 0,int part,int pos,sec s] H K:=by
 apply zWk; unfold zui
 refine zHa hO ?_
 clear hO
 intro p7 H hO
 replace hO:=hO.rot
 replace hO:St H ((Γ++[(p7,⟨by8 s,true⟩)])++MW L m):=hO
 have i7:(Γ++[(p7,(⟨by8 s,true⟩:Blk))])[Γ.length+0]?=some (p7,⟨by8 s,true⟩):=zua rfl
 have fin:∀ {H:Heap} {Δ:List (Nat × Blk)},St H ((Γ++[(p7,⟨by8 s,true⟩)])++Δ)→St H (Γ++Δ):=fun h=>St.mid h
 generalize Γ++[(p7,(⟨by8 s,true⟩:Blk))]=Γ' at hO i7 fin
 refine zkl ok hO ?_
 refine zaa zXt ?_
 refine zaa zYt ?_
 refine zaa zGb ?_
 unfold Mp.program at hk
 refine zna (fun h=>?_) (fun h=>?_)
 ·rw[if_pos h] at hk
  exact hk _ L Mloc.Eq.rfl' (fin hO) hv
 ·rw[if_neg h] at hk
  refine zaa (bOp _ _ _) ?_
  repeat (first|refine oi ?_|refine ow ?_|refine wy ?_|refine wn ?_|refine wt ?_|refine wf' ?_|refine cy ?_|refine cn ?_)
  refine zga hO (Γ'.length+0) (zua rfl) rfl ?_
  refine zta hO (Γ.length+0) (zwa i7) (by rw[zsa]; exact hl) (by omega) ?_
  refine zAs ok.d hl hs.1 (MW.toD hO) hv.d ?_
  clear hO
  intro H vd' hO hvd
  refine zeu (L:={ L with vd:=vd' }) (m:={ m with d:=(m.d.program (m.place part pos).1 s).1 }) (by have:=hs.2; show m.ops.length≤_; omega) (MW.dev hO) ⟨hvd,hv.o⟩ ?_
  clear hO
  intro H L' he hO hv'
  exact hk _ L' ⟨he.m,he.d,he.c,he.s⟩ (fin hO) hv'
theorem zir(ok:m.Ok)(hs:m.Sm 1000000)(hO:St H (Γ++MW L m))(hv:Mown L m)
  (hk:∀ H' L',L.Eq L'→St H' (Γ++MW L' m.sync.1)→Mown L' m.sync.1→K (int m.sync.2) H'):wCall P zad [ptr L.pm 0] H K:=by
 apply zQn; unfold zTl
 repeat (first|refine oi ?_|refine ow ?_|refine wy ?_|refine wn ?_|refine wt ?_|refine wf' ?_|refine cy ?_|refine cn ?_)
 refine zga hO (Γ.length+0) (zua rfl) rfl ?_
 refine zfy ok.d hs.1 (MW.toD hO) hv.d ?_
 clear hO
 intro H vd' hO hvd
 exact hk H { L with vd:=vd' } ⟨rfl,rfl,rfl,rfl⟩ (MW.dev hO) ⟨hvd,hv.o⟩
def Mp.wipeN(part:Int):Nat→Nat→Mp→Mp × Int
 | 0,_,m=>(m,0)
 | n+1,y,m=>if (m.read part y).1=blank then wipeN part n (y+1) m else if (m.erase part y).2≠0 then m.erase part y else wipeN part n (y+1) (m.erase part y).1
def Mp.wipe(m:Mp)(part:Int):Mp × Int:=if ¬ m.has part then (m,71) else Mp.wipeN part (m.size part) 0 m
end J
set_option maxRecDepth 100000
namespace J
open Go Go.Ab
variable{H:Heap}{Γ:List (Nat × Blk)}{K:VH}{v w x:Value}{xs ys bs:List Int}{j p:Nat}{e:Int}
variable{L:Mloc}{m:Mp}{part pos:Int}{s:List Int}
theorem zfu(hO:St H (Γ++MW L m))(hv:Mown L m)
  (hk:∀ H',St H' ((Γ++zhb L.vo (zOp m.ops))++MW { L with vo:=zBa } { m with ops:=[] })→Mown { L with vo:=zBa } { m with ops:=[] }→K L.vo H'):wCall P zXb [ptr L.pm 0] H K:=by
 apply zvp; unfold zwn
 repeat (first|refine oi ?_|refine ow ?_|refine wy ?_|refine wn ?_|refine wt ?_|refine wf' ?_|refine cy ?_|refine cn ?_)
 refine zga hO (Γ.length+0) (zua rfl) rfl ?_
 repeat (first|refine oi ?_|refine ow ?_|refine wy ?_|refine wn ?_|refine wt ?_|refine wf' ?_|refine cy ?_|refine cn ?_)
 refine zNa hO (Γ.length+0) (zua rfl) rfl (show 3 < 4 by omega) rfl ?_
 clear hO
 intro H hO
 have h3:St H (Γ++(MA { L with vo:=zBa } { m with ops:=[] }++(zhb L.vo (zOp m.ops)++DW L.pd L.pc L.vd m.d))):=hO.set_r
 refine hk H ?_ ⟨hv.d,.inl ⟨rfl,rfl,rfl⟩⟩
 refine h3.perm ?_
 show (Γ++(MA _ _++(zhb L.vo (zOp m.ops)++DW L.pd L.pc L.vd m.d))).Perm ((Γ++zhb L.vo (zOp m.ops))++(MA _ _++([]++DW L.pd L.pc L.vd m.d)))
 rw[List.append_assoc,List.nil_append,← List.append_assoc (MA _ _),← List.append_assoc (zhb _ _)]
 exact List.Perm.append_left Γ (List.Perm.append_right _ List.perm_append_comm)
def spansFrom:Nat→List Nat→List (Nat × Nat)
 | _,[]=>[]
 | n,x::l=>(n,x)::spansFrom (n+x) l
theorem zPp:∀ (l:List Nat) (n:Nat),(spansFrom n l).length=l.length
 | [],_=>rfl
 | x::l,n=>by show (spansFrom (n+x) l).length+1=_; rw[zPp l]; rfl
theorem zjr:∀ (l:List Nat) (n y:Nat) (h:y < l.length),(spansFrom n l).take (y+1)=(spansFrom n l).take y++[(n+(l.take y).sum,l[y])]
 | x::l,n,0,_=>by simp[spansFrom]
 | x::l,n,y+1,h=>by
  have:=zjr l (n+x) y (by simpa using h)
  show (n,x)::(spansFrom (n+x) l).take (y+1)=(n,x)::(spansFrom (n+x) l).take y++[(n+(x+(l.take y).sum),_)]
  rw[this,Nat.add_assoc]; rfl
theorem zTJ(pd:Nat):(zxa P 98).f [(0,ptr pd 0)]=some (agg [ptr pd 0,zBa,int 0,zBa]):=by kernel_rfl
theorem zVI(a b:Int):(zxa P 128).f [(0,int a),(1,int b)]=some (agg [int a,int b]):=by kernel_rfl
theorem znH(a b:Int)(H:Heap):(zoa P 96 1).f [(0,agg [int a,int b])] H=some (sl H.next 0 1 5,H.push [int a,int b]):=by kernel_rfl
theorem zll:∀ (l:List Nat) (y:Nat),(l.take y).sum≤l.sum
 | [],y=>by simp
 | x::l,0=>by simp
 | x::l,y+1=>by simp; exact zll l y
theorem zBs(l:List Nat)(y:Nat)(h:y < l.length):(l.take (y+1)).sum=(l.take y).sum+l[y]:=by
 rw[List.take_succ_eq_append_getElem h,List.sum_append]; simp
set_option maxHeartbeats 1000000 in
theorem zDA{pd pc q c:Nat}{vd:Value}{d:Dv}{sizes:List Nat}{jz:Nat}{b:Bool}(ok:d.Ok)(hO:St H (Γ++DW pd pc vd d))(hz:Γ[jz]?=some (q,⟨sizes.map fun (n:Nat)=>int n,b⟩))(h0:0 < sizes.length)(h16:sizes.length≤16)
  (h1:∀ n ∈ sizes,1≤n) (hs:sizes.sum≤d.cells.length) (hv:zYB vd d)
  (hk:∀ H' pm ps,St H' (Γ++MW ⟨pm,pd,pc,ps,vd,zBa⟩ ⟨d,spansFrom 0 sizes,0,[]⟩)→Mown ⟨pm,pd,pc,ps,vd,zBa⟩ ⟨d,spansFrom 0 sizes,0,[]⟩→K (.tuple [ptr pm 0,int 0].toArray) H'):wCall P zVj [ptr pd 0,sl q 0 sizes.length c] H K:=by
 apply zDv; unfold zVw
 refine zva (fun l' H'=>l'=[ptr pd 0,sl q 0 sizes.length c,.pointer none,int 0,.bool false]∧H'=H) ?_ ?_
 ·repeat (first|refine oi ?_|refine ow ?_|refine wy ?_|refine wn ?_|refine wt ?_|refine wf' ?_|refine cy ?_|refine cn ?_)
  rw[decide_eq_false (by omega)]
  exact⟨rfl,rfl⟩
 rintro l' H' ⟨rfl,rfl⟩
 try simp only[zia,zja]
 refine zXa rfl ?_
 refine zaa (zTJ pd) ?_
 refine zHa hO ?_
 clear hO
 intro pm H hO
 replace hO:St H (((Γ++DW pd pc vd d)++[(pm,⟨[ptr pd 0,zBa,int 0,zBa],true⟩)])++zhb zBa (spC [])):=by
  show St H (((Γ++DW pd pc vd d)++[(pm,⟨[ptr pd 0,zBa,int 0,zBa],true⟩)])++[])
  rw[List.append_nil]; exact hO
 repeat (first|refine oi ?_|refine ow ?_|refine wy ?_|refine wn ?_|refine wt ?_|refine wf' ?_|refine cy ?_|refine cn ?_)
 have hdn:=ok.n
 have hlen:=zPp sizes 0
 refine zBp (fun k l' H'=>∃ (y:Nat) (vs:Value),y≤sizes.length∧k=sizes.length - y∧l'=[ptr pd 0,.pointer none,int 0,ptr pm 0,int ((sizes.take y).sum:Nat),sl q 0 sizes.length c,int sizes.length,int y]∧St H' (((Γ++DW pd pc vd d)++[(pm,⟨[ptr pd 0,vs,int 0,zBa],true⟩)])++zhb vs (spC ((spansFrom 0 sizes).take y)))∧Own 2 vs y (spC ((spansFrom 0 sizes).take y))∧(0 < y→∃ ps,vs=sl ps 0 y 4)) _ _ ?_ sizes.length _ _ ⟨0,zBa,by omega,rfl,rfl,hO,.inl ⟨rfl,rfl,rfl⟩,fun h=>absurd h (by omega)⟩
 clear hO
 rintro k l' H ⟨y,vs,hy,rfl,rfl,hO,hvs,hps⟩
 unfold zAp
 try simp only[zia,zja]
 have hst:=zll sizes y
 repeat (first|refine oi ?_|refine ow ?_|refine wy ?_|refine wn ?_|refine wt ?_|refine wf' ?_|refine cy ?_|refine cn ?_)
 refine zna (fun h=>?_) (fun h=>?_)
 ·have hyl:y < sizes.length:=by omega
  have hm:=h1 _ (List.getElem_mem hyl)
  have hst1:=zll sizes (y+1)
  have hss:=zBs sizes y hyl
  refine zaa (zfb (by omega) (by omega)) ?_
  refine zga hO jz (zwa (zwa (zwa hz))) (v:=int sizes[y]) (by
   show (sizes.map fun (n:Nat)=>int n)[0+((y:Nat):Int).toNat * 1]?=_
   rw[Int.toNat_natCast,show 0+y * 1=y by omega]; simp[hyl]) ?_
  refine zva (fun l' H'=>l'=[ptr pd 0,.pointer none,int 0,ptr pm 0,int ((sizes.take y).sum:Nat),int sizes[y],sl q 0 sizes.length c,int sizes.length,int y,.bool false]∧H'=H) ?_ ?_
  ·refine zaa zIa ?_
   rw[decide_eq_false (show ¬ ((sizes[y]:Nat):Int) < 1 by omega)]
   refine zXa rfl ?_
   refine zdy hO (zwa (zwa (zua (k:=0) rfl))) ?_
   repeat (first|refine oi ?_|refine ow ?_|refine wy ?_|refine wn ?_|refine wt ?_|refine wf' ?_|refine cy ?_|refine cn ?_)
   rw[decide_eq_false (show ¬ ((d.cells.length:Int) - ((sizes.take y).sum:Nat)) < ((sizes[y]:Nat):Int) by omega)]
   exact⟨rfl,rfl⟩
  rintro l' H' ⟨rfl,rfl⟩
  try simp only[zia,zja]
  refine zXa rfl ?_
  repeat (first|refine oi ?_|refine ow ?_|refine wy ?_|refine wn ?_|refine wt ?_|refine wf' ?_|refine cy ?_|refine cn ?_)
  refine zga hO ((Γ++DW pd pc vd d).length+0) (zwa (zua rfl)) rfl ?_
  refine zaa (zVI _ _) ?_
  refine zbb hO (znH _ _ _) ?_
  clear hO
  intro q2 H hO
  refine zDj hO hvs rfl (by omega) rfl (by omega) (by omega) ?_
  clear hO
  intro ps H hO hvs'
  have e5:spC ((spansFrom 0 sizes).take y)++[int ((sizes.take y).sum:Nat),int sizes[y]]=spC ((spansFrom 0 sizes).take (y+1)):=by
   rw[zjr sizes 0 y hyl]
   simp[spC]
  rw[e5] at hO hvs'
  repeat (first|refine oi ?_|refine ow ?_|refine wy ?_|refine wn ?_|refine wt ?_|refine wf' ?_|refine cy ?_|refine cn ?_)
  refine zNa hO ((Γ++DW pd pc vd d).length+0) (zwa (zua rfl)) rfl (show 1 < 4 by omega) rfl ?_
  clear hO
  intro H hO
  rw[List.set_append_left _ _ (by simp),Go.Ab.set_r] at hO
  repeat (first|refine oi ?_|refine ow ?_|refine wy ?_|refine wn ?_|refine wt ?_|refine wf' ?_|refine cy ?_|refine cn ?_)
  refine⟨_,by omega,y+1,_,by omega,rfl,?_,hO,hvs',fun _=>⟨ps,rfl⟩⟩
  rw[hss]
  simp
 ·have ey:y=sizes.length:=by omega
  subst ey
  rw[List.take_of_length_le (by rw[hlen]; exact Nat.le_refl _)] at hO hvs
  obtain⟨ps,rfl⟩:=hps h0
  repeat (first|refine oi ?_|refine ow ?_|refine wy ?_|refine wn ?_|refine wt ?_|refine wf' ?_|refine cy ?_|refine cn ?_)
  refine hk H pm ps ?_ ⟨hv,.inl ⟨rfl,rfl,rfl⟩⟩
  have h3:St H (((Γ++DW pd pc vd d)++[(pm,⟨[ptr pd 0,sl ps 0 sizes.length 4,int 0,zBa],true⟩)])++[(ps,⟨spC (spansFrom 0 sizes),true⟩)]):=hO
  rw[List.append_assoc] at h3
  have h4:=h3.rot
  rw[List.append_assoc] at h4
  have e7:mv ⟨pm,pd,pc,ps,vd,zBa⟩ ⟨d,spansFrom 0 sizes,0,[]⟩=[ptr pd 0,sl ps 0 sizes.length 4,int 0,zBa]:=by unfold mv; rw[hlen]
  show St H (Γ++([(pm,⟨mv ⟨pm,pd,pc,ps,vd,zBa⟩ ⟨d,spansFrom 0 sizes,0,[]⟩,true⟩),(ps,⟨spC (spansFrom 0 sizes),true⟩)]++([]++DW pd pc vd d)))
  rw[e7,List.nil_append]
  exact h4
end J
set_option maxRecDepth 100000
namespace J
open Go Go.Ab
def rr(x n:Nat):Nat:=x / 2 ^ n ||| x * 2 ^ (32 - n) % 4294967296
def zng(x:Nat)(l:List Nat):Nat:=l.foldl (fun o n=>o ^^^ rr x n) 0
def zgu(b:List Int)(t:Nat):Nat:=16777216 * (b.getD (4 * t) 0).toNat+65536 * (b.getD (4 * t+1) 0).toNat+256 * (b.getD (4 * t+2) 0).toNat+(b.getD (4 * t+3) 0).toNat
def zkm(b:List Int)(w:List Nat)(t:Nat):Nat:=if t < 16 then zgu b t else
 (w.getD (t - 16) 0+(zng (w.getD (t - 15) 0) [7,18] ^^^ w.getD (t - 15) 0 / 8)+w.getD (t - 7) 0+(zng (w.getD (t - 2) 0) [17,19] ^^^ w.getD (t - 2) 0 / 1024)) % 4294967296
def wUp(b:List Int):Nat→List Nat
 | 0=>[]
 | t+1=>wUp b t++[zkm b (wUp b t) t]
def chF(e f g:Nat):Nat:=(e &&& f) ^^^ ((4294967295 - e) &&& g)
def zBF(a b c:Nat):Nat:=((a &&& b) ^^^ (a &&& c)) ^^^ (b &&& c)
structure W8 where
 a:Nat
 b:Nat
 c:Nat
 d:Nat
 e:Nat
 f:Nat
 g:Nat
 h:Nat
structure W8.Ok (x:W8):Prop where
 a:x.a < 4294967296
 b:x.b < 4294967296
 c:x.c < 4294967296
 d:x.d < 4294967296
 e:x.e < 4294967296
 f:x.f < 4294967296
 g:x.g < 4294967296
 h:x.h < 4294967296
def W8.l(x:W8):List Nat:=[x.a,x.b,x.c,x.d,x.e,x.f,x.g,x.h]
def t1F(x:W8)(k w:Nat):Nat:=(x.h+zng x.e [6,11,25]+chF x.e x.f x.g+k+w) % 4294967296
def t2F(x:W8):Nat:=(zng x.a [2,13,22]+zBF x.a x.b x.c) % 4294967296
def zoH(x:W8)(k w:Nat):W8:=⟨(t1F x k w+t2F x) % 4294967296,x.a,x.b,x.c,(x.d+t1F x k w) % 4294967296,x.e,x.f,x.g⟩
def zpk:List Nat:=[0x428a2f98,0x71374491,0xb5c0fbcf,0xe9b5dba5,0x3956c25b,0x59f111f1,0x923f82a4,0xab1c5ed5,0xd807aa98,0x12835b01,0x243185be,0x550c7dc3,0x72be5d74,0x80deb1fe,0x9bdc06a7,0xc19bf174,
 0xe49b69c1,0xefbe4786,0x0fc19dc6,0x240ca1cc,0x2de92c6f,0x4a7484aa,0x5cb0a9dc,0x76f988da,0x983e5152,0xa831c66d,0xb00327c8,0xbf597fc7,0xc6e00bf3,0xd5a79147,0x06ca6351,0x14292967,
 0x27b70a85,0x2e1b2138,0x4d2c6dfc,0x53380d13,0x650a7354,0x766a0abb,0x81c2c92e,0x92722c85,0xa2bfe8a1,0xa81a664b,0xc24b8b70,0xc76c51a3,0xd192e819,0xd6990624,0xf40e3585,0x106aa070,
 0x19a4c116,0x1e376c08,0x2748774c,0x34b0bcb5,0x391c0cb3,0x4ed8aa4a,0x5b9cca4f,0x682e6ff3,0x748f82ee,0x78a5636f,0x84c87814,0x8cc70208,0x90befffa,0xa4506ceb,0xbef9a3f7,0xc67178f2]
def zKv(w:List Nat)(x:W8):Nat→W8
 | 0=>x
 | t+1=>zoH (zKv w x t) (zpk.getD t 0) (w.getD t 0)
def zEG(x y:W8):W8:=⟨(x.a+y.a) % 4294967296,(x.b+y.b) % 4294967296,(x.c+y.c) % 4294967296,(x.d+y.d) % 4294967296,(x.e+y.e) % 4294967296,(x.f+y.f) % 4294967296,(x.g+y.g) % 4294967296,(x.h+y.h) % 4294967296⟩
def zCF(s:W8)(b:List Int):W8:=zEG s (zKv (wUp b 64) s 64)
def zDF:W8:=⟨0x6a09e667,0xbb67ae85,0x3c6ef372,0xa54ff53a,0x510e527f,0x9b05688c,0x1f83d9ab,0x5be0cd19⟩
def stN(xs:List Int):Nat→W8
 | 0=>zDF
 | n+1=>zCF (stN xs n) ((xs.drop (64 * n)).take 64)
def dSt(xs:List Int):W8:=stN xs (xs.length / 64)
def zLv(xs:List Int):List Int:=xs.drop (64 * (xs.length / 64))
def be8(n:Nat):List Int:=(List.range 8).map fun i=>((n / 2 ^ (56 - 8 * i) % 256:Nat):Int)
def zcn(n:Nat):Nat:=(119 - n % 64) % 64
def zEA(xs:List Int):List Int:=xs++[128]++List.replicate (zcn xs.length) 0++be8 (8 * xs.length)
def be4(w:Nat):List Int:=[((w / 16777216 % 256:Nat):Int),((w / 65536 % 256:Nat):Int),((w / 256 % 256:Nat):Int),((w % 256:Nat):Int)]
def zog(s:W8):List Int:=s.l.flatMap be4
def sha(xs:List Int):List Int:=zog (dSt (zEA xs))
theorem zho{x n:Nat}(h:x < 4294967296):rr x n < 4294967296:=Nat.or_lt_two_pow (n:=32) (Nat.lt_of_le_of_lt (Nat.div_le_self _ _) h) (Nat.mod_lt _ (by omega))
theorem zax{x:Nat}(h:x < 4294967296):∀ (l:List Nat) (o:Nat),o < 4294967296→l.foldl (fun o n=>o ^^^ rr x n) o < 4294967296
 | [],_,ho=>ho
 | n::l,o,ho=>zax h l _ (Nat.xor_lt_two_pow (n:=32) ho (zho h))
theorem zlm{x:Nat}{l:List Nat}(h:x < 4294967296):zng x l < 4294967296:=zax h l 0 (by omega)
theorem zpH{e f g:Nat}(he:e < 4294967296)(hf:f < 4294967296)(hg:g < 4294967296):chF e f g < 4294967296:=
 Nat.xor_lt_two_pow (n:=32) (Nat.and_lt_two_pow (n:=32) _ hf) (Nat.and_lt_two_pow (n:=32) _ hg)
theorem zEF{a b c:Nat}(hb:b < 4294967296)(hc:c < 4294967296):zBF a b c < 4294967296:=
 Nat.xor_lt_two_pow (n:=32) (Nat.xor_lt_two_pow (n:=32) (Nat.and_lt_two_pow (n:=32) _ hb) (Nat.and_lt_two_pow (n:=32) _ hc)) (Nat.and_lt_two_pow (n:=32) _ hc)
theorem zFF{x:W8}{k w:Nat}(h:x.Ok):(zoH x k w).Ok:=⟨Nat.mod_lt _ (by omega),h.a,h.b,h.c,Nat.mod_lt _ (by omega),h.e,h.f,h.g⟩
theorem zQp{x:W8}{w:List Nat}(h:x.Ok):∀ t,(zKv w x t).Ok
 | 0=>h
 | t+1=>zFF (zQp h t)
theorem zGF{x y:W8}:(zEG x y).Ok:=⟨Nat.mod_lt _ (by omega),Nat.mod_lt _ (by omega),Nat.mod_lt _ (by omega),Nat.mod_lt _ (by omega),Nat.mod_lt _ (by omega),Nat.mod_lt _ (by omega),Nat.mod_lt _ (by omega),Nat.mod_lt _ (by omega)⟩
theorem zHF:zDF.Ok:=⟨by decide,by decide,by decide,by decide,by decide,by decide,by decide,by decide⟩
theorem zhu{xs:List Int}:∀ n,(stN xs n).Ok
 | 0=>zHF
 | n+1=>zGF
theorem zRp{b:List Int}:∀ t,(wUp b t).length=t
 | 0=>rfl
 | t+1=>by show (wUp b t++[_]).length=t+1; rw[List.length_append,zRp t]; rfl
theorem zYg{b:List Int}(h:∀ x ∈ b,0≤x∧x≤255)(i:Nat):(b.getD i 0).toNat < 256:=by
 rw[List.getD_eq_getElem?_getD]
 by_cases hi:i < b.length
 ·rw[List.getElem?_eq_getElem hi]
  have:=h _ (List.getElem_mem hi)
  show (b[i]).toNat < 256
  omega
 ·rw[List.getElem?_eq_none (by omega)]; decide
theorem zuD{b:List Int}(h:∀ x ∈ b,0≤x∧x≤255)(t:Nat):zgu b t < 4294967296:=by
 have h0:=zYg h (4 * t)
 have h1:=zYg h (4 * t+1)
 have h2:=zYg h (4 * t+2)
 have h3:=zYg h (4 * t+3)
 unfold zgu
 omega
theorem zvD{b:List Int}{w:List Nat}(h:∀ x ∈ b,0≤x∧x≤255)(t:Nat):zkm b w t < 4294967296:=by
 unfold zkm
 split
 ·exact zuD h t
 ·exact Nat.mod_lt _ (by omega)
theorem ziu{b:List Int}(h:∀ x ∈ b,0≤x∧x≤255):∀ t,∀ x ∈ wUp b t,x < 4294967296
 | 0,x,hx=>by cases hx
 | t+1,x,hx=>by
  rcases List.mem_append.1 (show x ∈ wUp b t++[zkm b (wUp b t) t] from hx) with hx|hx
  ·exact ziu h t x hx
  ·rw[List.mem_singleton.1 hx]; exact zvD h t
theorem getD_lt{w:List Nat}(h:∀ x ∈ w,x < 4294967296)(i:Nat):w.getD i 0 < 4294967296:=by
 rw[List.getD_eq_getElem?_getD]
 by_cases hi:i < w.length
 ·rw[List.getElem?_eq_getElem hi]; exact h _ (List.getElem_mem hi)
 ·rw[List.getElem?_eq_none (by omega)]; show 0 < _; omega
theorem zFA{xs ys:List Int}:∀ n,64 * n≤xs.length→stN (xs++ys) n=stN xs n
 | 0,_=>rfl
 | n+1,h=>by
  show zCF (stN (xs++ys) n) (((xs++ys).drop (64 * n)).take 64)=zCF (stN xs n) ((xs.drop (64 * n)).take 64)
  rw[zFA n (by omega),List.drop_append_of_le_length (by omega),List.take_append_of_le_length (by rw[List.length_drop]; omega)]
theorem zSp{xs:List Int}:(zLv xs).length=xs.length % 64:=by
 unfold zLv
 rw[List.length_drop]; omega
theorem zCs{n:Nat}:(be8 n).length=8:=by unfold be8; rw[List.length_map,List.length_range]
theorem zwD{xs:List Int}:(zEA xs).length % 64=0:=by
 unfold zEA
 rw[List.length_append,List.length_append,List.length_append,List.length_replicate,zCs]
 show (xs.length+1+zcn xs.length+8) % 64=0
 unfold zcn
 omega
theorem zIF{a b c d:Nat}(ha:a < 256)(hb:b < 256)(hc:c < 256)(hd:d < 256):((a * 2 ^ 24 % 4294967296 ||| b * 2 ^ 16 % 4294967296) ||| c * 2 ^ 8 % 4294967296) ||| d=16777216 * a+65536 * b+256 * c+d:=by
 have h1:∀ {x k:Nat},x < 2 ^ (32 - k)→k≤32→x * 2 ^ k % 4294967296=2 ^ k * x:=by
  intro x k hx hk
  rw[Nat.mul_comm]
  refine Nat.mod_eq_of_lt ?_
  have:2 ^ k * x < 2 ^ k * 2 ^ (32 - k):=Nat.mul_lt_mul_of_pos_left hx (Nat.two_pow_pos k)
  rwa [← Nat.pow_add,show k+(32 - k)=32 from Nat.add_sub_cancel' hk] at this
 rw[h1 (k:=24) (Nat.lt_of_lt_of_le ha (by decide)) (by decide),h1 (k:=16) (Nat.lt_of_lt_of_le hb (by decide)) (by decide),h1 (k:=8) (Nat.lt_of_lt_of_le hc (by decide)) (by decide)]
 rw[← Nat.two_pow_add_eq_or_of_lt (i:=24) (show 2 ^ 16 * b < 2 ^ 24 from Nat.lt_of_lt_of_le (Nat.mul_lt_mul_of_pos_left hb (by decide)) (by decide))]
 have e4:2 ^ 24 * a+2 ^ 16 * b=2 ^ 16 * (2 ^ 8 * a+b):=by rw[Nat.mul_add,← Nat.mul_assoc]
 rw[e4,← Nat.two_pow_add_eq_or_of_lt (i:=16) (show 2 ^ 8 * c < 2 ^ 16 from Nat.lt_of_lt_of_le (Nat.mul_lt_mul_of_pos_left hc (by decide)) (by decide))]
 have e5:2 ^ 16 * (2 ^ 8 * a+b)+2 ^ 8 * c=2 ^ 8 * (2 ^ 8 * (2 ^ 8 * a+b)+c):=by rw[Nat.mul_add (2 ^ 8) _ c,← Nat.mul_assoc (2 ^ 8) (2 ^ 8)]
 rw[e5,← Nat.two_pow_add_eq_or_of_lt (i:=8) (Nat.lt_of_lt_of_le hd (by decide))]
end J
set_option maxRecDepth 100000
namespace J
open Go Go.Ab
variable{H:Heap}{Γ Γ0 Γ2 Δ G:List (Nat × Blk)}{K:VH}{v w x:Value}{xs ys bs b:List Int}{j p:Nat}{e:Int}
abbrev u32(n:Nat):Value:=zsb .u32 n
theorem zBq{p o lo hi:Nat}(h:p < lo):zIu (zJa [ptr p o]) lo hi:=by
 show outside [p] lo hi=true
 simp[outside,zpb,blt_eq,h]
theorem wrap_u64{n:Int}(h:-9223372036854775808≤n)(hn:n < 0):zqc .u64 n=((18446744073709551616 - n.natAbs:Nat):Int):=by
 obtain⟨m,rfl⟩:∃ m:Nat,n=Int.negSucc m:=⟨n.natAbs - 1,by omega⟩
 show ((18446744073709551616 - 1 - m % 18446744073709551616:Nat):Int)=_
 rw[Nat.mod_eq_of_lt (by omega)]
 congr 1
 show _=18446744073709551616 - (m+1)
 omega
theorem zMv{a n:Nat}(ha:a < 4294967296)(hn:0 < n)(hn2:n < 32)(hk:K (u32 (rr a n)) H):wCall P zoc [u32 a,int (-(n:Int))] H K:=by
 apply zXg; unfold zBe
 refine zCa (v:=zsb .u64 (18446744073709551616 - n)) (H':=H) (by
  show some (Value.int .u64 (zqc .u64 (-(n:Int))),H)=_
  rw[wrap_u64 (by omega) (by omega),show (-(n:Int)).natAbs=n by omega]) ?_
 refine zaa (v:=zsb .u64 (32 - n)) (by
  rw[show (Value.int .u64 31)=zsb .u64 31 from rfl,zie rfl (show 18446744073709551616 - n < szU .u64 from (show _ < 18446744073709551616 by omega)) (by decide)]
  congr 2
  have:(18446744073709551616 - n) &&& 31=(18446744073709551616 - n) % 32:=Nat.and_two_pow_sub_one_eq_mod _ 5
  rw[this]
  congr 1
  omega) ?_
 refine zaa (zLl (k:=.u32) rfl (show 32 - n≤32 by omega)) ?_
 refine zaa (v:=zsb .u64 n) (by
  rw[show (Value.int .u64 32)=zsb .u64 32 from rfl,zjs rfl (by omega) (by decide)]
  congr 3
  omega) ?_
 refine zaa (zzf (k:=.u32) rfl (show n≤32 by omega)) ?_
 refine zaa (znp (k:=.u32) rfl (show a * 2 ^ (32 - n) % szU .u32 < szU .u32 from Nat.mod_lt _ (by decide)) (show a / 2 ^ n < 4294967296 from Nat.lt_of_le_of_lt (Nat.div_le_self _ _) ha)) ?_
 rw[Nat.or_comm]
 exact hk
theorem zmm{a:Nat}{l:List Nat}{q c j:Nat}{wr:Bool}(ha:a < 4294967296)(hl:∀ n ∈ l,0 < n∧n < 32)(hn:l.length≤1000)(hO:St H Γ)(hj:Γ[j]?=some (q,(⟨l.map fun (n:Nat)=>int n,wr⟩:Blk)))(hk:K (u32 (zng a l)) H) :
  wCall P zBc [u32 a,sl q 0 l.length c] H K:=by
 apply zAq; unfold zLp
 refine zCa zzg ?_
 refine zim (fun k l' H'=>H'=H∧∃ y:Nat,y≤l.length∧k=l.length - y∧l'=[u32 a,.int .u32 0,u32 (zng a (l.take y)),sl q 0 l.length c,int l.length,int y]) _ _ ?_ l.length _ _ ⟨rfl,0,by omega,rfl,rfl⟩
 rintro k l' H' ⟨rfl,y,hy,rfl,rfl⟩
 unfold zJk
 try simp only[zia,zja]
 refine zaa zIa ?_
 refine zna (fun h=>?_) (fun h=>?_)
 ·have hyl:y < l.length:=by omega
  obtain⟨h1,h2⟩:=hl _ (List.getElem_mem hyl)
  refine zaa (zfb (by omega) (by omega)) ?_
  refine zga hO j hj (v:=int (l[y]:Nat)) (by simp[hyl]) ?_
  refine zaa (v:=int (-(l[y]:Int))) (by
   show some (Value.int .i64 (zqc .i64 (0 - (l[y]:Int))))=_
   rw[zun (by omega) (by omega),show (0:Int) - (l[y]:Int)=-(l[y]:Int) by omega]) ?_
  refine zMv ha h1 h2 ?_
  refine zaa (zTb (k:=.u32) rfl (zlm ha) (zho ha)) ?_
  repeat (first|refine oi ?_|refine ow ?_|refine wy ?_|refine wn ?_|refine wt ?_|refine wf' ?_|refine cy ?_|refine cn ?_)
  refine⟨_,by omega,(by first|rfl|trivial),y+1,by omega,rfl,?_⟩
  have e:zng a (l.take (y+1))=zng a (l.take y) ^^^ rr a l[y]:=by
   unfold zng
   rw[List.take_succ_eq_append_getElem hyl,List.foldl_append]; rfl
  rw[e]; rfl
 ·have ey:y=l.length:=by omega
  subst ey
  rw[List.take_of_length_le (Nat.le_refl _)]
  refine zKa rfl ?_
  exact hk
def w8C(x:W8):List Value:=x.l.map fun (n:Nat)=>u32 n
theorem zEJ:zc P 166=List.replicate 8 (u32 0):=by kernel_rfl
theorem zqH:zc P 186=List.replicate 64 (u32 0):=by kernel_rfl
theorem zgy(hO:St H Γ)(hk:∀ H' p,St H' (Γ++[(p,⟨zpk.map fun (n:Nat)=>u32 n,true⟩)])→K (ptr p 0) H'):wCall P zUg [] H K:=by
 apply zKp; unfold zLn
 refine zaa (v:=agg (zpk.map fun (n:Nat)=>u32 n)) (by kernel_rfl) ?_
 exact zHa hO fun p H'=>hk H' p
theorem zhy(hO:St H Γ)(hk:∀ H',St H' Γ→K (agg (w8C zDF)) H'):wCall P zTg [] H K:=by
 apply zJp; unfold zKn
 rw[zEJ]
 refine zHa hO ?_
 clear hO
 intro p H hO
 refine zaa (v:=agg (w8C zDF)) (by kernel_rfl) ?_
 refine zra hO (Γ.length+0) (zua rfl) rfl rfl rfl ?_
 clear hO
 intro H hO
 replace hO:=hO.set_r
 refine zta hO (Γ.length+0) (zua rfl) rfl (by omega) ?_
 exact hk _ hO.left
theorem zFJ(a b:Int)(H:Heap):(zoa P 126 2).f [(0,.int .i64 a),(1,.int .i64 b)] H=some (sl H.next 0 2 3,H.push [int a,int b]):=by kernel_rfl
theorem zGJ(a b c:Int)(H:Heap):(zoa P 126 3).f [(0,.int .i64 a),(1,.int .i64 b),(2,.int .i64 c)] H=some (sl H.next 0 3 3,H.push [int a,int b,int c]):=by kernel_rfl
def wC(w:List Nat):List Value:=(w.map fun (n:Nat)=>u32 n)++List.replicate (64 - w.length) (u32 0)
theorem zkr{w:List Nat}(h:w.length≤64):(wC w).length=64:=by simp[wC]; omega
theorem zGA{w:List Nat}{i:Nat}(h:i < w.length):(wC w)[i]?=some (u32 (w.getD i 0)):=by
 unfold wC
 rw[List.getElem?_append_left (by simpa using h)]
 simp[h]
theorem zrH{w:List Nat}{n:Nat}(h:w.length < 64):(wC w).set w.length (u32 n)=wC (w++[n]):=by
 unfold wC
 rw[List.set_append_right _ _ (by simp)]
 simp
 obtain⟨m,hm⟩:∃ m,64 - w.length=m+1:=⟨63 - w.length,by omega⟩
 rw[hm,List.replicate_succ,show 63 - w.length=m by omega]
 rfl
theorem zju{w:List Nat}:(wC w).all zSa=true:=by simp[wC,zSa,zGd]
theorem zHA{K:VH}(hO:St H Γ)(h:RdB Γ v b)(hb:∀ x ∈ b,0≤x∧x≤255){i:Int}{n:Nat}(hn:i=n)(hi:n < b.length)(hk:K (zsb .u8 (b.getD n 0).toNat) H):opP (zld 1 v (int i)) fun t=>opW (zba t H) K:=by
 obtain⟨p,o,c,j,bl,rfl,h1,h2⟩:=h.at hi
 subst hn
 refine zaa (zfb (by omega) (by omega)) ?_
 rw[Int.toNat_natCast,Nat.mul_one]
 refine zga hO j h1 (v:=.int .u8 b[n]) h2 ?_
 have e:b.getD n 0=b[n]:=by rw[List.getD_eq_getElem?_getD,List.getElem?_eq_getElem hi]; rfl
 rw[e] at hk
 have:=hb _ (List.getElem_mem hi)
 have e2:(Value.int .u8 b[n])=zsb .u8 (b[n]).toNat:=zdA this.1
 rw[e2]; exact hk
set_option maxHeartbeats 2000000 in
theorem zNv(hO:St H Γ)(hv:RdB Γ v b)(hb:∀ x ∈ b,0≤x∧x≤255)(hl:b.length=64)(hk:∀ H',St H' Γ→K (agg (wC (wUp b 64))) H'):wCall P zre [v] H K:=by
 apply zgo; unfold zhm
 rw[zqH]
 refine zHa hO ?_
 clear hO
 intro p2 H hO
 refine zHa hO ?_
 clear hO
 intro p3 H hO
 rw[List.append_assoc] at hO
 replace hO:St H (Γ++[(p2,⟨List.replicate 64 (u32 0),true⟩),(p3,⟨wC [],true⟩)]):=hO
 refine zok (fun k l' H'=>∃ (y:Nat) (Δ:List (Nat × Blk)),y≤64∧k=64 - y∧l'=[v,ptr p2 0,ptr p3 0,int y]∧St H' (Γ++([(p2,⟨List.replicate 64 (u32 0),true⟩),(p3,⟨wC (wUp b y),true⟩)]++Δ))) _ _ ?_ 64 _ _ ⟨0,[],by omega,rfl,rfl,by rw[List.append_nil]; exact hO⟩
 clear hO
 rintro k l' H ⟨y,Δ,hy,rfl,rfl,hO⟩
 unfold zHi
 try simp only[zia,zja]
 have hwl:=zRp (b:=b) y
 have i3:∀ {w:List Nat} {R R2:List (Nat × Blk)},((Γ++([(p2,(⟨List.replicate 64 (u32 0),true⟩:Blk)),(p3,⟨wC w,true⟩)]++R))++R2)[Γ.length+1]?=some (p3,⟨wC w,true⟩):=zwa (zua rfl)
 have i3':∀ {w:List Nat} {R:List (Nat × Blk)},(Γ++([(p2,(⟨List.replicate 64 (u32 0),true⟩:Blk)),(p3,⟨wC w,true⟩)]++R))[Γ.length+1]?=some (p3,⟨wC w,true⟩):=zua rfl
 refine zaa zIa ?_
 refine zna (fun h=>?_) (fun h=>?_)
 ·have fin:∀ {H':Heap} {R:List (Nat × Blk)} {n:Nat},n=zkm b (wUp b y) y→St H' ((Γ++([(p2,(⟨List.replicate 64 (u32 0),true⟩:Blk)),(p3,⟨wC (wUp b y),true⟩)]++R)).set (Γ.length+1) (p3,⟨(wC (wUp b y)).set (0+y * 1) (u32 n),true⟩))→St H' (Γ++([(p2,⟨List.replicate 64 (u32 0),true⟩),(p3,⟨wC (wUp b (y+1)),true⟩)]++R)):=by
   intro H' R n hn h'
   have h2:=h'.set_r
   subst hn
   have e:(wC (wUp b y)).set (0+y * 1) (u32 (zkm b (wUp b y) y))=wC (wUp b (y+1)):=by
    have:=zrH (w:=wUp b y) (n:=zkm b (wUp b y) y) (by omega)
    rw[hwl] at this
    rw[show 0+y * 1=y by omega]; exact this
   rw[e] at h2; exact h2
  refine zaa zIa ?_
  refine zna (fun h16=>?_) (fun h16=>?_)
  ·have g0:=zYg hb (4 * y)
   have g1:=zYg hb (4 * y+1)
   have g2:=zYg hb (4 * y+2)
   have g3:=zYg hb (4 * y+3)
   have m4:(zma P .mul 3 true).f (.int .i64 4) (int y)=some (int ((4 * y:Nat):Int)):=by rw[zQe (by omega) (by omega),show (4:Int) * (y:Int)=((4 * y:Nat):Int) by omega]
   refine zaa m4 ?_
   refine zHA hO hv.app hb rfl (by omega) ?_
   refine zCa (cvU (k':=.u32) rfl) ?_
   rw[show ∀ n,n < 256→n % szU .u32=n from fun n hn=>Nat.mod_eq_of_lt (show n < 4294967296 by omega)] <;> try exact g0
   refine zaa (zLl (k:=.u32) (n:=24) rfl (by decide)) ?_
   refine zaa m4 ?_
   refine zaa (zYa (by omega) (by omega)) ?_
   refine zHA hO hv.app hb (n:=4 * y+1) (by omega) (by omega) ?_
   refine zCa (cvU (k':=.u32) rfl) ?_
   rw[Nat.mod_eq_of_lt (show (b.getD (4 * y+1) 0).toNat < szU .u32 from (show _ < 4294967296 by omega))]
   refine zaa (zLl (k:=.u32) (n:=16) rfl (by decide)) ?_
   refine zaa (znp (k:=.u32) rfl (Nat.mod_lt _ (by decide)) (Nat.mod_lt _ (by decide))) ?_
   refine zaa m4 ?_
   refine zaa (zYa (by omega) (by omega)) ?_
   refine zHA hO hv.app hb (n:=4 * y+2) (by omega) (by omega) ?_
   refine zCa (cvU (k':=.u32) rfl) ?_
   rw[Nat.mod_eq_of_lt (show (b.getD (4 * y+2) 0).toNat < szU .u32 from (show _ < 4294967296 by omega))]
   refine zaa (zLl (k:=.u32) (n:=8) rfl (by decide)) ?_
   refine zaa (znp (k:=.u32) rfl (Nat.or_lt_two_pow (n:=32) (Nat.mod_lt _ (by decide)) (Nat.mod_lt _ (by decide))) (Nat.mod_lt _ (by decide))) ?_
   refine zaa m4 ?_
   refine zaa (zYa (by omega) (by omega)) ?_
   refine zHA hO hv.app hb (n:=4 * y+3) (by omega) (by omega) ?_
   refine zCa (cvU (k':=.u32) rfl) ?_
   rw[Nat.mod_eq_of_lt (show (b.getD (4 * y+3) 0).toNat < szU .u32 from (show _ < 4294967296 by omega))]
   refine zaa (znp (k:=.u32) rfl (Nat.or_lt_two_pow (n:=32) (Nat.or_lt_two_pow (n:=32) (Nat.mod_lt _ (by decide)) (Nat.mod_lt _ (by decide))) (Nat.mod_lt _ (by decide))) (show _ < 4294967296 by omega)) ?_
   refine zaa (zqa (by omega) (by omega)) ?_
   rw[Int.toNat_natCast]
   refine zNa hO (Γ.length+1) i3' rfl (by rw[zkr (by omega)]; omega) rfl ?_
   clear hO
   intro H hO
   replace hO:=fin (R:=Δ) (by
    unfold zkm zgu
    rw[if_pos (by omega)]
    exact zIF g0 g1 g2 g3) hO
   repeat (first|refine oi ?_|refine ow ?_|refine wy ?_|refine wn ?_|refine wt ?_|refine wf' ?_|refine cy ?_|refine cn ?_)
   exact⟨_,by omega,y+1,Δ,by omega,rfl,rfl,hO⟩
  ·have hlt:∀ i,(wUp b y).getD i 0 < 4294967296:=getD_lt (ziu hb y)
   have hp3:p3 < H.next:=hO.lt (p3,⟨wC (wUp b y),true⟩) (List.mem_of_getElem? i3')
   have sm:∀ {H1:Heap} {R:List (Nat × Blk)} {o:Nat},St H1 ((Γ++([(p2,(⟨List.replicate 64 (u32 0),true⟩:Blk)),(p3,⟨wC (wUp b y),true⟩)]++Δ))++R)→zeb (zcb H1 H1) (zJa [ptr p3 o]):=fun h1=>same_at h1 (Γ.length+1) i3 h1 (Γ.length+1) i3 zju
   refine zaa (zub (by omega) (by omega)) ?_
   refine zaa (zqa (by omega) (by omega)) ?_
   rw[show ((y:Int) - 15).toNat=y - 15 by omega]
   refine zga hO (Γ.length+1) i3' (v:=u32 ((wUp b y).getD (y - 15) 0)) (by rw[show 0+(y - 15) * 1=y - 15 by omega]; exact zGA (by omega)) ?_
   refine zaa (zub (by omega) (by omega)) ?_
   refine zaa (zqa (by omega) (by omega)) ?_
   rw[show ((y:Int) - 2).toNat=y - 2 by omega]
   refine zga hO (Γ.length+1) i3' (v:=u32 ((wUp b y).getD (y - 2) 0)) (by rw[show 0+(y - 2) * 1=y - 2 by omega]; exact zGA (by omega)) ?_
   refine zaa (zub (by omega) (by omega)) ?_
   refine zaa (zqa (by omega) (by omega)) ?_
   rw[show ((y:Int) - 16).toNat=y - 16 by omega]
   refine zga hO (Γ.length+1) i3' (v:=u32 ((wUp b y).getD (y - 16) 0)) (by rw[show 0+(y - 16) * 1=y - 16 by omega]; exact zGA (by omega)) ?_
   refine zbb hO (zFJ _ _ _) ?_
   clear hO
   intro q H hO
   refine zmm (l:=[7,18]) (hlt _) (by intro n hn; simp at hn; omega) (by simp) hO (j:=_+0) (zua rfl) ?_
   refine⟨sm hO,?_⟩
   refine zaa (zzf (k:=.u32) (n:=3) rfl (by decide)) ?_
   refine zaa (zTb (k:=.u32) rfl (zlm (hlt _)) (Nat.lt_of_le_of_lt (Nat.div_le_self _ _) (hlt _))) ?_
   refine zaa (zOc (k:=.u32) rfl) ?_
   refine zaa (zub (by omega) (by omega)) ?_
   refine zaa (zqa (by omega) (by omega)) ?_
   rw[show ((y:Int) - 7).toNat=y - 7 by omega]
   refine zga hO (Γ.length+1) i3 (v:=u32 ((wUp b y).getD (y - 7) 0)) (by rw[show 0+(y - 7) * 1=y - 7 by omega]; exact zGA (by omega)) ?_
   refine⟨sm hO,zBq hp3,?_⟩
   refine zaa (zOc (k:=.u32) rfl) ?_
   refine zbb hO (zFJ _ _ _) ?_
   clear hO
   intro q2 H hO
   refine zmm (l:=[17,19]) (hlt _) (by intro n hn; simp at hn; omega) (by simp) hO (j:=_+0) (zua rfl) ?_
   rw[List.append_assoc (Γ++_)] at hO
   refine⟨sm hO,sm hO,?_⟩
   refine zaa (zzf (k:=.u32) (n:=10) rfl (by decide)) ?_
   refine zaa (zTb (k:=.u32) rfl (zlm (hlt _)) (Nat.lt_of_le_of_lt (Nat.div_le_self _ _) (hlt _))) ?_
   refine zaa (zOc (k:=.u32) rfl) ?_
   refine zaa (zqa (by omega) (by omega)) ?_
   rw[Int.toNat_natCast]
   rw[List.append_assoc Γ,List.append_assoc [_,_]] at hO
   refine zNa hO (Γ.length+1) i3' rfl (by rw[zkr (by omega)]; omega) rfl ?_
   clear hO
   intro H hO
   replace hO:=fin (R:=_) (by
    unfold zkm
    rw[if_neg (by omega)]
    generalize zng ((wUp b y).getD (y - 15) 0) [7,18] ^^^ (wUp b y).getD (y - 15) 0 / 2 ^ 3=X
    generalize zng ((wUp b y).getD (y - 2) 0) [17,19] ^^^ (wUp b y).getD (y - 2) 0 / 2 ^ 10=Y
    have e32:szU .u32=4294967296:=rfl
    rw[e32]
    omega) hO
   repeat (first|refine oi ?_|refine ow ?_|refine wy ?_|refine wn ?_|refine wt ?_|refine wf' ?_|refine cy ?_|refine cn ?_)
   exact⟨_,by omega,y+1,_,by omega,rfl,rfl,hO⟩
 ·have ey:y=64:=by omega
  subst ey
  refine zKa rfl ?_
  try simp only[zia,zja]
  refine zta hO (Γ.length+1) i3' (zkr (by omega)) (by omega) ?_
  refine zra hO (Γ.length+0) (zua rfl) (by simp) (zkr (by omega)) (by simp[wC,oneCell]) ?_
  clear hO
  intro H hO
  replace hO:=hO.set_r
  refine zta hO (Γ.length+0) (zua rfl) (zkr (by omega)) (by omega) ?_
  exact hk _ hO.left
end J
set_option maxRecDepth 100000
namespace J
open Go Go.Ab
variable{H:Heap}{Γ Γ0 Γ2 Δ G:List (Nat × Blk)}{K:VH}{v w x:Value}{xs ys bs b:List Int}{j p:Nat}{e:Int}
theorem zJF{o n c i q o2 n2 c2:Nat}{cs:List Value}{K:VH}(hO:St H Γ)(hi:Γ[i]?=some (q,⟨cs,true⟩))(hn:n2≤n)(hp:0 < n2)(hl:o+n≤cs.length)(hl2:o2+n2≤cs.length)(h1:cs.all oneCell=true)
  (hk:∀ H',St H' (Γ.set i (q,⟨cs.take o++((cs.drop o2).take n2++cs.drop (o+n2)),true⟩))→K (int n2) H'):opW (zTi 1 (sl q o n c) (sl q o2 n2 c2) H) K:=by
 have hlen:((cs.drop o2).take n2).length=n2:=by rw[List.length_take,List.length_drop]; omega
 obtain⟨H',hw,hs⟩:=zas hO (o:=o) (vs:=(cs.drop o2).take n2) hi (by omega) (by
  rw[List.all_eq_true] at h1 ⊢
  exact fun x hx=>h1 x (List.mem_of_mem_drop (List.mem_of_mem_take hx)))
 unfold zTi
 simp only[show lenA (sl q o2 n2 c2)=some n2 from rfl]
 have hm:Nat.min n2 n=n2:=Nat.min_eq_left hn
 rw[hm]
 have hb:Nat.beq n2 0=false:=by
  cases hb:Nat.beq n2 0 with
  | false=>rfl
  | true=>have:=Nat.eq_of_beq_eq_true hb; omega
 rw[hb]
 simp only[Bool.false_eq_true,if_false]
 have hg:=hO.at i hi (.inl rfl)
 have he:zSi H 1 n2 (sl q o2 n2 c2)=some ((cs.drop o2).take (n2 * 1)):=zcs hg (by show o2+n2 * 1≤cs.length; omega)
 rw[he,Nat.mul_one]
 simp only
 rw[hw]
 refine zCa (show some (Value.int .i64 ((n2:Nat):Int),H')=_ from rfl) ?_
 rw[hlen] at hs
 exact hk _ hs
theorem ziy(x:W8):(w8C x).all zSa=true:=rfl
theorem zDs(x:W8):(w8C x).all oneCell=true:=rfl
theorem zIA:(zpk.map fun (n:Nat)=>u32 n).all zSa=true:=by simp[zSa,zGd]
theorem zWI{i:Nat}(h:i < 64):(zpk.map fun (n:Nat)=>u32 n)[i]?=some (u32 (zpk.getD i 0)):=by
 have hl:zpk.length=64:=rfl
 simp[hl,h]
theorem zXI(i:Nat):zpk.getD i 0 < 4294967296:=getD_lt (by decide) i
theorem zsH(x:W8)(k w:Nat) :
  ((((x.h+zng x.e [6,11,25]) % 4294967296+chF x.e x.f x.g) % 4294967296+k) % 4294967296+w) % 4294967296=t1F x k w:=by
 unfold t1F
 generalize zng x.e [6,11,25]=A
 generalize chF x.e x.f x.g=B
 omega
set_option maxHeartbeats 8000000 in
theorem ztH{p2 p4 p5 p16 p7:Nat}{s:W8}{ws:List Nat}{Qx:LX}{Qr:LN}(hs:s.Ok)(hw:∀ x ∈ ws,x < 4294967296)(hwl:ws.length=64){j5 j16:Nat}(h5:Γ[j5]?=some (p5,⟨wC ws,true⟩))(h16:Γ[j16]?=some (p16,⟨zpk.map fun (n:Nat)=>u32 n,true⟩))
  (hO:St H (Γ++[(p7,⟨w8C s,true⟩)])) (hk:∀ H' Δ,St H' ((Γ++[(p7,⟨w8C (zKv ws s 64),true⟩)])++Δ)→Qx 0 [ptr p2 0,ptr p4 0,ptr p7 0] H') :
  zdb P true 97 zTd 148 [ptr p2 0,ptr p4 0,ptr p5 0,ptr p16 0,ptr p7 0,int 0] H Qx Qr:=by
 refine zli (fun k l' H'=>∃ (y:Nat) (Δ:List (Nat × Blk)),y≤64∧k=64 - y∧l'=[ptr p2 0,ptr p4 0,ptr p5 0,ptr p16 0,ptr p7 0,int y]∧St H' ((Γ++[(p7,⟨w8C (zKv ws s y),true⟩)])++Δ)) _ _ ?_ 64 _ _ ⟨0,[],by omega,rfl,rfl,by rw[List.append_nil]; exact hO⟩
 clear hO
 rintro k l' H ⟨y,Δ,hy,rfl,rfl,hO⟩
 unfold zcg
 try simp only[zia,zja]
 refine zaa zIa ?_
 refine zna (fun h=>?_) (fun h=>?_)
 rotate_left
 ·have ey:y=64:=by omega
  subst ey
  exact hk _ _ hO
 have hxo:=zQp (w:=ws) hs y
 have ew:ws.getD y 0 < 4294967296:=getD_lt hw y
 have er:zKv ws s (y+1)=zoH (zKv ws s y) (zpk.getD y 0) (ws.getD y 0):=rfl
 generalize zKv ws s y=x at *
 have i7:∀ {R:List (Nat × Blk)},(((Γ++[(p7,(⟨w8C x,true⟩:Blk))])++Δ)++R)[Γ.length+0]?=some (p7,⟨w8C x,true⟩):=zwa (zwa (zua rfl))
 have i7':((Γ++[(p7,(⟨w8C x,true⟩:Blk))])++Δ)[Γ.length+0]?=some (p7,⟨w8C x,true⟩):=zwa (zua rfl)
 have i5:∀ {R:List (Nat × Blk)},(((Γ++[(p7,(⟨w8C x,true⟩:Blk))])++Δ)++R)[j5]?=some (p5,⟨wC ws,true⟩):=zwa (zwa (zwa h5))
 have i16:∀ {R:List (Nat × Blk)},(((Γ++[(p7,(⟨w8C x,true⟩:Blk))])++Δ)++R)[j16]?=some (p16,⟨zpk.map fun (n:Nat)=>u32 n,true⟩):=zwa (zwa (zwa h16))
 have lt7:p7 < H.next:=hO.lt _ (List.mem_of_getElem? i7')
 have lt5:p5 < H.next:=hO.lt _ (List.mem_of_getElem? (zwa (zwa h5)))
 have lt16:p16 < H.next:=hO.lt _ (List.mem_of_getElem? (zwa (zwa h16)))
 have sm7:∀ {H1:Heap} {R:List (Nat × Blk)} {o:Nat},St H1 (((Γ++[(p7,(⟨w8C x,true⟩:Blk))])++Δ)++R)→zeb (zcb H1 H1) (zJa [ptr p7 o]):=fun h1=>same_at h1 _ i7 h1 _ i7 (ziy x)
 have sm5:∀ {H1:Heap} {R:List (Nat × Blk)} {o:Nat},St H1 (((Γ++[(p7,(⟨w8C x,true⟩:Blk))])++Δ)++R)→zeb (zcb H1 H1) (zJa [ptr p5 o]):=fun h1=>same_at h1 _ i5 h1 _ i5 zju
 have sm16:∀ {H1:Heap} {R:List (Nat × Blk)} {o:Nat},St H1 (((Γ++[(p7,(⟨w8C x,true⟩:Blk))])++Δ)++R)→zeb (zcb H1 H1) (zJa [ptr p16 o]):=fun h1=>same_at h1 _ i16 h1 _ i16 zIA
 have e32:szU .u32=4294967296:=rfl
 refine zaa (zqa (by omega) (by omega)) ?_
 refine zga hO _ i7' (v:=u32 x.a) rfl ?_
 refine zaa (zqa (by omega) (by omega)) ?_
 refine zga hO _ i7' (v:=u32 x.e) rfl ?_
 refine zaa (zqa (by omega) (by omega)) ?_
 refine zga hO _ i7' (v:=u32 x.h) rfl ?_
 refine zbb hO (zGJ _ _ _ _) ?_
 clear hO
 intro q H2 hO
 refine zmm (l:=[6,11,25]) hxo.e (by intro n hn; simp at hn; omega) (by simp) hO (j:=_+0) (zua rfl) ?_
 refine⟨sm7 hO,?_⟩
 refine zaa (zOc (k:=.u32) rfl) ?_
 refine zaa (zqa (by omega) (by omega)) ?_
 refine zga hO _ i7 (v:=u32 x.f) rfl ?_
 refine⟨sm7 hO,zBq lt7,?_⟩
 refine zaa (zie (k:=.u32) rfl hxo.e hxo.f) ?_
 refine zaa (zhF (k:=.u32) rfl hxo.e) ?_
 refine zaa (zqa (by omega) (by omega)) ?_
 refine zga hO _ i7 (v:=u32 x.g) rfl ?_
 refine⟨sm7 hO,zBq lt7,?_⟩
 have hne:szU .u32 - 1 - x.e < szU .u32:=by rw[e32]; omega
 refine zaa (zie (k:=.u32) rfl hne hxo.g) ?_
 refine zaa (zTb (k:=.u32) rfl (Nat.and_lt_two_pow (n:=32) _ hxo.f) (Nat.and_lt_two_pow (n:=32) _ hxo.g)) ?_
 refine zaa (zOc (k:=.u32) rfl) ?_
 refine zaa zda ?_
 refine zaa (zqa (by omega) (by omega)) ?_
 rw[Int.toNat_natCast]
 refine zga hO _ i16 (v:=u32 (zpk.getD y 0)) (by rw[show 0+y * 1=y by omega]; exact zWI (by omega)) ?_
 refine⟨sm16 hO,zBq lt16,?_⟩
 refine zaa (zOc (k:=.u32) rfl) ?_
 refine zaa (zqa (by omega) (by omega)) ?_
 rw[Int.toNat_natCast]
 refine zga hO _ i5 (v:=u32 (ws.getD y 0)) (by rw[show 0+y * 1=y by omega]; exact zGA (by omega)) ?_
 refine⟨sm5 hO,zBq lt5,?_⟩
 refine zaa (zOc (k:=.u32) rfl) ?_
 have eone:=zsH x (zpk.getD y 0) (ws.getD y 0)
 rw[e32,show (x.e &&& x.f) ^^^ ((4294967296 - 1 - x.e) &&& x.g)=chF x.e x.f x.g from rfl,eone]
 have lt7b:p7 < H2.next:=hO.lt _ (List.mem_of_getElem? i7)
 refine zbb hO (zGJ _ _ _ _) ?_
 clear hO
 intro q2 H3 hO
 refine zmm (l:=[2,13,22]) hxo.a (by intro n hn; simp at hn; omega) (by simp) hO (j:=_+0) (zua rfl) ?_
 rw[List.append_assoc (_++Δ)] at hO
 refine zaa (zqa (by omega) (by omega)) ?_
 refine zga hO _ i7 (v:=u32 x.b) rfl ?_
 refine⟨sm7 hO,zBq lt7b,?_⟩
 refine zaa (zie (k:=.u32) rfl hxo.a hxo.b) ?_
 refine zaa (zqa (by omega) (by omega)) ?_
 refine zga hO _ i7 (v:=u32 x.c) rfl ?_
 refine⟨sm7 hO,zBq lt7b,?_⟩
 refine zaa (zie (k:=.u32) rfl hxo.a hxo.c) ?_
 refine zaa (zTb (k:=.u32) rfl (Nat.and_lt_two_pow (n:=32) _ hxo.b) (Nat.and_lt_two_pow (n:=32) _ hxo.c)) ?_
 refine zaa (zqa (by omega) (by omega)) ?_
 refine zga hO _ i7 (v:=u32 x.b) rfl ?_
 refine⟨sm7 hO,zBq lt7b,?_⟩
 refine zaa (zqa (by omega) (by omega)) ?_
 refine zga hO _ i7 (v:=u32 x.c) rfl ?_
 refine⟨sm7 hO,zBq lt7b,?_⟩
 refine zaa (zie (k:=.u32) rfl hxo.b hxo.c) ?_
 refine zaa (zTb (k:=.u32) rfl (Nat.xor_lt_two_pow (n:=32) (Nat.and_lt_two_pow (n:=32) _ hxo.b) (Nat.and_lt_two_pow (n:=32) _ hxo.c)) (Nat.and_lt_two_pow (n:=32) _ hxo.c)) ?_
 refine zaa (zOc (k:=.u32) rfl) ?_
 rw[e32,show ((x.a &&& x.b) ^^^ (x.a &&& x.c)) ^^^ (x.b &&& x.c)=zBF x.a x.b x.c from rfl,show (zng x.a [2,13,22]+zBF x.a x.b x.c) % 4294967296=t2F x from rfl]
 have hg:=hO.at _ i7 (.inl rfl)
 refine zaa (show zhd 8 1 (ptr p7 0) (some (int 1)) none none H3=some (sl p7 1 7 3) by unfold zhd; simp only[hg]; rfl) ?_
 refine zaa (show zhd 8 1 (ptr p7 0) none (some (int 7)) none H3=some (sl p7 0 7 2) by unfold zhd; simp only[hg]; rfl) ?_
 refine zJF hO i7 (by omega) (by omega) (show 1+7≤8 by omega) (show 0+7≤8 by omega) (zDs x) ?_
 clear hO hg
 intro H4 hO
 have y7:∀ {c c':List Value} {R:List (Nat × Blk)},((((Γ++[(p7,(⟨c,true⟩:Blk))])++Δ)++R).set (Γ.length+0) (p7,⟨c',true⟩))=(((Γ++[(p7,(⟨c',true⟩:Blk))])++Δ)++R):=by
  intro c c' R
  rw[List.set_append_left _ _ (by simp),List.set_append_left _ _ (by simp),Go.Ab.set_r]; rfl
 have z7:∀ {c:List Value} {R:List (Nat × Blk)},(((Γ++[(p7,(⟨c,true⟩:Blk))])++Δ)++R)[Γ.length+0]?=some (p7,⟨c,true⟩):=zwa (zwa (zua rfl))
 rw[y7] at hO
 refine zaa (zqa (by omega) (by omega)) ?_
 refine zga hO _ z7 (v:=u32 x.d) rfl ?_
 refine zaa (zOc (k:=.u32) rfl) ?_
 refine zaa (zqa (by omega) (by omega)) ?_
 refine zNa hO _ z7 rfl (show 4 < 8 by omega) (show _=[u32 x.a,u32 x.a,u32 x.b,u32 x.c,u32 ((x.d+t1F x (zpk.getD y 0) (ws.getD y 0)) % 4294967296),u32 x.e,u32 x.f,u32 x.g] from rfl) ?_
 clear hO
 intro H5 hO
 rw[y7] at hO
 refine zaa (zOc (k:=.u32) rfl) ?_
 refine zaa (zqa (by omega) (by omega)) ?_
 refine zNa hO _ z7 rfl (show 0 < 8 by omega) (show _=w8C (zoH x (zpk.getD y 0) (ws.getD y 0)) from rfl) ?_
 clear hO
 intro H6 hO
 rw[y7] at hO
 repeat (first|refine oi ?_|refine ow ?_|refine wy ?_|refine wn ?_|refine wt ?_|refine wf' ?_|refine cy ?_|refine cn ?_)
 rw[List.append_assoc (Γ++_),← er] at hO
 exact⟨64 - (y+1),by omega,y+1,_,by omega,rfl,rfl,hO⟩
end J
set_option maxRecDepth 100000
namespace J
open Go Go.Ab
variable{H:Heap}{Γ Γ0 Γ2 Δ G:List (Nat × Blk)}{K:VH}{v w x:Value}{xs ys bs b:List Int}{j p:Nat}{e:Int}
theorem zJA{l:List Value}{i:Nat}{v:Value}(h:l[i]?=some v):i < l.length:=(List.getElem?_eq_some_iff.1 h).1
def zOv(a b:List Nat)(y:Nat):List Nat:=(List.range a.length).map fun i=>if i < y then (a.getD i 0+b.getD i 0) % 4294967296 else a.getD i 0
theorem zEs{a b:List Nat}{y:Nat}:(zOv a b y).length=a.length:=by unfold zOv; rw[List.length_map,List.length_range]
theorem zFs{a b:List Nat}{y i:Nat}(h:i < a.length):(zOv a b y)[i]?=some (if i < y then (a.getD i 0+b.getD i 0) % 4294967296 else a.getD i 0):=by
 unfold zOv
 rw[List.getElem?_map,List.getElem?_range h]; rfl
theorem zbx{a b:List Nat}{y:Nat}(h:y < a.length):(zOv a b y).set y ((a.getD y 0+b.getD y 0) % 4294967296)=zOv a b (y+1):=by
 apply List.ext_getElem?
 intro i
 rw[List.getElem?_set]
 by_cases hi:i < a.length
 ·rw[zFs hi,zFs hi]
  by_cases he:y=i
  ·subst he
   rw[if_pos rfl,if_pos (by rw[zEs]; exact h),if_pos (Nat.lt_succ_self y)]
  ·rw[if_neg he]
   by_cases hlt:i < y
   ·rw[if_pos hlt,if_pos (by omega)]
   ·rw[if_neg hlt,if_neg (by omega)]
 ·rw[if_neg (by omega),List.getElem?_eq_none (by rw[zEs]; omega),List.getElem?_eq_none (by rw[zEs]; omega)]
theorem zsE{s R:W8}:zOv s.l R.l 8=(zEG s R).l:=rfl
theorem zuH{s R:W8}{p2 p4 p7:Nat}{T:List (Nat × Blk)}{Qx:LX}{Qr:LN}(i7:T[2]?=some (p7,⟨w8C R,true⟩))
  (hO:St H (Γ++([(p2,⟨w8C s,true⟩),(p4,⟨List.replicate 8 (u32 0),true⟩)]++T)))
  (hk:∀ H',St H' (Γ++([(p2,⟨w8C (zEG s R),true⟩),(p4,⟨List.replicate 8 (u32 0),true⟩)]++T))→Qx 2 [ptr p2 0,ptr p4 0] H') :
  zdb P true 97 zUd 20 [ptr p2 0,ptr p4 0,ptr p7 0,int 0] H Qx Qr:=by
 refine zmi (fun k l' H'=>∃ (y:Nat),y≤8∧k=8 - y∧l'=[ptr p2 0,ptr p4 0,ptr p7 0,int y]∧St H' (Γ++([(p2,⟨(zOv s.l R.l y).map fun (n:Nat)=>u32 n,true⟩),(p4,⟨List.replicate 8 (u32 0),true⟩)]++T))) _ _ ?_ 8 _ _ ⟨0,by omega,rfl,rfl,hO⟩
 clear hO
 rintro k l' H ⟨y,hy,rfl,rfl,hO⟩
 unfold zdg
 try simp only[zia,zja]
 have hls:s.l.length=8:=rfl
 have hlR:R.l.length=8:=rfl
 refine zaa zIa ?_
 refine zna (fun h=>?_) (fun h=>?_)
 ·have hy8:y < 8:=by omega
  have e32:szU .u32=4294967296:=rfl
  have a1:((zOv s.l R.l y).map fun (n:Nat)=>u32 n)[0+y * 1]?=some (u32 (s.l.getD y 0)):=by
   rw[show 0+y * 1=y by omega,List.getElem?_map,zFs (by omega),if_neg (by omega)]; rfl
  have a2:(w8C R)[0+y * 1]?=some (u32 (R.l.getD y 0)):=by
   unfold w8C
   rw[show 0+y * 1=y by omega,List.getElem?_map,List.getElem?_eq_getElem (by omega),List.getD_eq_getElem?_getD,List.getElem?_eq_getElem (by omega)]; rfl
  have a3:((zOv s.l R.l y).map fun (n:Nat)=>u32 n).set (0+y * 1) (u32 ((s.l.getD y 0+R.l.getD y 0) % 4294967296))=(zOv s.l R.l (y+1)).map fun (n:Nat)=>u32 n:=by
   rw[← zbx (by omega),List.map_set,show 0+y * 1=y by omega]
  refine zaa (zqa (by omega) (by omega)) ?_
  rw[Int.toNat_natCast]
  refine zga hO (Γ.length+0) (zua rfl) a1 ?_
  refine zaa (zqa (by omega) (by omega)) ?_
  rw[Int.toNat_natCast]
  refine zga hO (Γ.length+(2+2)) (zua (zua (Γ:=[_,_]) i7)) a2 ?_
  refine zaa (zOc (k:=.u32) rfl) ?_
  refine zaa (zqa (by omega) (by omega)) ?_
  rw[Int.toNat_natCast,e32]
  refine zNa hO (Γ.length+0) (zua rfl) rfl (zJA a1) a3 ?_
  clear hO
  intro H hO
  replace hO:=hO.set_r
  repeat (first|refine oi ?_|refine ow ?_|refine wy ?_|refine wn ?_|refine wt ?_|refine wf' ?_|refine cy ?_|refine cn ?_)
  exact⟨_,by omega,y+1,by omega,rfl,rfl,hO⟩
 ·have ey:y=8:=by omega
  subst ey
  rw[zsE] at hO
  exact hk _ hO
set_option maxHeartbeats 4000000 in
theorem zxD{s:W8}(hs:s.Ok)(hO:St H Γ)(hv:RdB Γ v b)(hb:∀ x ∈ b,0≤x∧x≤255)(hl:b.length=64)(hk:∀ H',St H' Γ→K (agg (w8C (zCF s b))) H'):wCall P zVb [agg (w8C s),v] H K:=by
 apply zil; unfold zFi
 refine zHa hO ?_
 clear hO
 intro p2 H hO
 rw[zEJ]
 refine zHa hO ?_
 clear hO
 intro p4 H hO
 rw[List.append_assoc] at hO
 replace hO:St H (Γ++[(p2,⟨w8C s,true⟩),(p4,⟨List.replicate 8 (u32 0),true⟩)]):=hO
 refine zNv hO hv.app hb hl ?_
 clear hO
 intro H hO
 refine zgy hO ?_
 clear hO
 intro H p16 hO
 rw[zqH]
 refine zHa hO ?_
 clear hO
 intro p5 H hO
 have hwl:(wUp b 64).length=64:=zRp 64
 refine zra hO (_+0) (zua rfl) (by simp) (zkr (by omega)) (by simp[wC,oneCell]) ?_
 clear hO
 intro H hO
 replace hO:=hO.set_r
 refine zta hO (Γ.length+0) (zwa (zwa (zua rfl))) rfl (by omega) ?_
 refine zHa hO ?_
 clear hO
 intro p7 H hO
 refine zra hO (_+0) (zua rfl) (by simp) rfl (zDs s) ?_
 clear hO
 intro H hO
 replace hO:=hO.set_r
 refine ztH (ws:=wUp b 64) hs (ziu hb 64) hwl (zua (k:=0) rfl) (zwa (zua (k:=0) rfl)) hO ?_
 clear hO
 intro H Δ hO
 refine zKa rfl ?_
 try simp only[zia,zja]
 generalize hR:zKv (wUp b 64) s 64=R at *
 have ho:=zQp (w:=wUp b 64) hs 64
 have hm:zCF s b=zEG s R:=by unfold zCF; rw[hR]
 replace hO:St H (Γ++([(p2,⟨w8C s,true⟩),(p4,⟨List.replicate 8 (u32 0),true⟩)]++([(p16,⟨zpk.map fun (n:Nat)=>u32 n,true⟩)]++([(p5,⟨wC (wUp b 64),true⟩)]++([(p7,⟨w8C R,true⟩)]++Δ))))):=by
  have h2:=hO
  simp only[List.append_assoc] at h2
  exact h2
 obtain⟨T,hT⟩:∃ T,T=([(p16,(⟨zpk.map fun (n:Nat)=>u32 n,true⟩:Blk))]++([(p5,⟨wC (wUp b 64),true⟩)]++([(p7,⟨w8C R,true⟩)]++Δ))):=⟨_,rfl⟩
 have i7:T[2]?=some (p7,⟨w8C R,true⟩):=by rw[hT]; rfl
 rw[← hT] at hO
 clear hT
 refine zuH i7 hO ?_
 clear hO
 intro H hO
 rw[← hm] at hO
 refine zKa rfl ?_
 try simp only[zia,zja]
 refine zta hO (Γ.length+0) (zua rfl) rfl (by omega) ?_
 refine zra hO (Γ.length+1) (zua rfl) rfl rfl (zDs _) ?_
 clear hO
 intro H hO
 replace hO:=hO.set_r
 refine zta hO (Γ.length+1) (zua rfl) rfl (by omega) ?_
 exact hk _ hO.left
end J
set_option maxRecDepth 100000
namespace J
open Go Go.Ab
variable{H:Heap}{Γ Γ0 Γ2 Δ G:List (Nat × Blk)}{K:VH}{v w x:Value}{xs ys zs bs b:List Int}{j p pd:Nat}{e:Int}{cs:List Value}
def OwnO(v:Value)(xs:List Int)(cs:List Value):Prop:=
 (v=zBa∧xs=[]∧cs=[])∨∃ p o,(v=sl p o xs.length 2∨v=sl p o xs.length 3)∧(cs.drop o).take xs.length=by8 xs∧o+xs.length≤cs.length∧cs.all zSa=true
theorem OwnB.o(h:OwnB v xs cs):OwnO v xs cs:=by
 rcases h with h|⟨p,h1,h2,h3,h4⟩
 ·exact .inl h
 ·refine .inr ⟨p,0,?_,by rw[List.drop_zero]; exact h2,by omega,h4⟩
  rcases h1 with h1|⟨h1,_⟩
  ·exact .inl h1
  ·exact .inr h1
theorem OwnO.rd(h:OwnO v xs cs):RdB (zhb v cs) v xs:=by
 rcases h with⟨rfl,rfl,_⟩|⟨p,o,h1|h1,h2,h3,h4⟩
 ·exact .nil
 ·subst h1; exact .inr ⟨p,o,2,rfl,.inl rfl,.inr ⟨0,⟨cs,true⟩,rfl,h2⟩⟩
 ·subst h1; exact .inr ⟨p,o,3,rfl,.inr rfl,.inr ⟨0,⟨cs,true⟩,rfl,h2⟩⟩
theorem zjy(hO:St H (Γ++zhb v cs))(hv:OwnO v xs cs)(hx:RdB Γ x ys)(hl:xs.length+ys.length≤1000000000)
  (hk:∀ H' v' cs',St H' (Γ++zhb v' cs')→OwnO v' (xs++ys) cs'→K v' H'):opW (zEa 1 1 v x H) K:=by
 rcases hv with⟨rfl,rfl,rfl⟩|⟨p,o,hv,h2,h3,h4⟩
 ·exact zdj (xs:=[]) hO .nil hx hl fun H' v' cs' h1 h2=>hk H' v' cs' h1 (OwnB.o h2)
 unfold zEa
 simp only[hx.lenA,hx.app.elems hO]
 by_cases hy:ys=[]
 ·subst hy
  rw[List.append_nil] at hk
  have e:zLc 1 1 v ([]:List Value) 0 H=some (v,H):=by
   unfold zLc
   rcases hv with rfl|rfl <;> rfl
  exact zCa (show zLc 1 1 v ([]:List Value) 0 H=some (v,H) from e) (hk _ _ _ hO (.inr ⟨p,o,hv,h2,h3,h4⟩))
 have hpos:0 < ys.length:=List.length_pos_iff.2 hy
 have hmb:Nat.beq ys.length 0=false:=by
  cases hb:Nat.beq ys.length 0 with
  | false=>rfl
  | true=>have:=Nat.eq_of_beq_eq_true hb; omega
 have h1:(by8 ys).all oneCell=true:=by simp[oneCell]
 have own':∀ p,OwnO (sl p 0 (xs.length+ys.length) 2) (xs++ys) (by8 xs++by8 ys):=fun p=>by
  refine .inr ⟨p,0,.inl (by rw[List.length_append]),?_,by simp,by simp[zSa,zGd]⟩
  rw[List.drop_zero,List.take_of_length_le (by simp)]
  exact (List.map_append).symm
 unfold zLc
 have hΓ:zhb v cs=[(p,⟨cs,true⟩)]:=by rcases hv with rfl|rfl <;> rfl
 rw[hΓ] at hO
 have hi:(Γ++[(p,(⟨cs,true⟩:Blk))])[Γ.length]?=some (p,⟨cs,true⟩):=by simp
 have hget:=hO.at _ hi (.inl rfl)
 rcases hv with rfl|rfl
 ·have her:=hO.erase hi
  have he:(Γ++[(p,(⟨cs,true⟩:Blk))]).eraseIdx Γ.length=Γ:=by
   rw[List.eraseIdx_append_of_length_le (Nat.le_refl _)]; simp
  rw[he] at her
  simp only[hmb,Bool.false_eq_true,if_false]
  rw[if_pos (zaj (by omega) (by omega))]
  rw[if_neg (show ¬ Nat.beq 2 (2 * 1+1)=true by decide),if_pos (show Nat.beq 2 (2 * 1)=true by decide)]
  unfold zCe
  rw[hget]
  have e:(Heap.mayWrite H p ⟨cs,true⟩ && (Nat.ble (o+xs.length * 1) (zce cs) && zRi oneCell (by8 ys)))=true:=by
   unfold Heap.mayWrite
   rw[hO.fl,zFa,zpb,h1,zAb,zAb,decide_eq_true (by omega:o+xs.length * 1≤cs.length)]
   simp
  simp only[e]
  have e2:zhg (zXj (takeN cs (o+xs.length * 1)) o) (by8 ys)=by8 xs++by8 ys:=by
   rw[zQa,ztb,zlb,List.drop_take,Nat.mul_one,Nat.add_sub_cancel_left,h2]
  rw[e2]
  exact zCa (show zob (by8 xs++by8 ys) (xs.length+ys.length) (2 * 1) (H.set p none)=some (sl H.next 0 (xs.length+ys.length) 2,(H.set p none).push (by8 xs++by8 ys)) from rfl) (hk _ _ _ (her.push _) (own' _))
 ·simp only[hmb,Bool.false_eq_true,if_false]
  rw[if_pos (zaj (by omega) (by omega))]
  rw[if_pos (show Nat.beq 3 (2 * 1+1)=true by decide)]
  unfold zUc
  have e3:(if Nat.beq xs.length 0=true then some [] else zhc H p o (xs.length * 1))=some (by8 xs):=by
   split
   ·rename_i h0
    have h0:=Nat.eq_of_beq_eq_true h0
    have:xs=[]:=List.length_eq_zero_iff.1 h0
    rw[this]; rfl
   ·rw[zVc]
    rw[hget]
    simp only[zJh,zlb,ztb,zFa,Nat.mul_one]
    rw[h2,List.length_map,Nat.beq_refl]
  rw[e3]
  simp only[zQa]
  exact zCa (show zob (by8 xs++by8 ys) (xs.length+ys.length) (2 * 1) H=some (sl H.next 0 (xs.length+ys.length) 2,H.push (by8 xs++by8 ys)) from rfl) (hk _ _ _ (hO.left.push _) (own' _))
theorem zBo{len n:Nat}(h:n≤len):zkd len (some (int (n:Int)))=some n:=by
 show (match leB 0 (n:Int) with|true=>(match Nat.ble (n:Int).toNat len with|true=>some (n:Int).toNat|false=>none)|false=>none)=_
 rw[zbc,decide_eq_true (by omega)]
 simp only[Int.toNat_natCast]
 rw[Nat.ble_eq_true_of_le h]
theorem zvH(h:OwnO v xs cs){n:Nat}(hn:n≤xs.length)(hp:0 < n):∃ v',zWa 1 v (some (int n)) none none=some v'∧OwnO v' (xs.drop n) cs∧zhb v' cs=zhb v cs:=by
 rcases h with⟨rfl,rfl,_⟩|⟨p,o,hv,h2,h3,h4⟩
 ·simp at hn; omega
 have hb:=zBo hn
 have fin:∀ c,(c=2∨c=3)→zWa 1 (sl p o xs.length c) (some (int n)) none none=some (sl p (o+n) (xs.length - n) c):=by
  intro c hc
  unfold zWa
  simp only[zkc,hb]
  rcases hc with rfl|rfl <;> simp[ztl,zCd]
 have hd:(cs.drop (o+n)).take (xs.drop n).length=by8 (xs.drop n):=by
  have:=congrArg (List.drop n) h2
  rw[List.drop_take,List.drop_drop] at this
  rw[List.length_drop,this,by8,by8,List.map_drop]
 rcases hv with rfl|rfl
 ·exact⟨_,fin 2 (.inl rfl),.inr ⟨p,o+n,.inl (by rw[List.length_drop]),hd,by rw[List.length_drop]; omega,h4⟩,rfl⟩
 ·exact⟨_,fin 3 (.inr rfl),.inr ⟨p,o+n,.inr (by rw[List.length_drop]),hd,by rw[List.length_drop]; omega,h4⟩,rfl⟩
def dgW(s:W8)(rv:Value)(n:Nat):List Value:=w8C s++[rv,zsb .u64 n]
abbrev DG(pd:Nat)(s:W8)(rv:Value)(n:Nat)(cs:List Value):List (Nat × Blk):=[(pd,⟨dgW s rv n,true⟩)]++zhb rv cs
theorem zTp(h:OwnO v xs cs):∃ a n c,v=.slice a n c:=by
 rcases h with⟨rfl,_⟩|⟨p,o,rfl|rfl,_⟩ <;> exact⟨_,_,_,rfl⟩
theorem znm{a b:List Int}(ha:∀ x ∈ a,0≤x∧x≤255)(hb:∀ x ∈ b,0≤x∧x≤255):∀ x ∈ a++b,0≤x∧x≤255:=fun x hx=>by
 rcases List.mem_append.1 hx with hx|hx
 ·exact ha x hx
 ·exact hb x hx
set_option maxHeartbeats 4000000 in
theorem zky{rv:Value}(hO:St H (Γ++DG pd (dSt xs) rv xs.length cs))(hv:OwnO rv (zLv xs) cs)(hw:RdB Γ w ys)(hx:∀ x ∈ xs,0≤x∧x≤255)(hy:∀ x ∈ ys,0≤x∧x≤255)(hl:xs.length≤100000000)(hl2:ys.length≤100000000)
  (hk:∀ H' rv' cs',St H' (Γ++DG pd (dSt (xs++ys)) rv' (xs++ys).length cs')→OwnO rv' (zLv (xs++ys)) cs'→K (.tuple [].toArray) H'):wCall P zPa [ptr pd 0,w] H K:=by
 apply zPi; unfold zbg
 rw[← List.append_assoc] at hO
 refine zaa zda ?_
 refine zaa zca ?_
 refine zga hO (Γ.length+0) (zwa (zua rfl)) (v:=zsb .u64 xs.length) rfl ?_
 refine zCa hw.lenSl ?_
 refine zCa (zBJ (by omega) (by omega)) ?_
 rw[Int.toNat_natCast]
 refine zaa (zOc (k:=.u64) rfl) ?_
 rw[Nat.mod_eq_of_lt (show xs.length+ys.length < szU .u64 from (show _ < 18446744073709551616 by omega))]
 refine zaa zda ?_
 refine zaa zca ?_
 refine zNa hO (Γ.length+0) (zwa (zua rfl)) rfl (show 9 < 10 by omega) (show _=dgW (dSt xs) rv (xs.length+ys.length) from rfl) ?_
 clear hO
 intro H hO
 rw[List.set_append_left _ _ (by simp),Go.Ab.set_r] at hO
 replace hO:St H ((Γ++[(pd,⟨dgW (dSt xs) rv (xs.length+ys.length),true⟩)])++zhb rv cs):=hO
 refine zaa zda ?_
 refine zaa zca ?_
 refine zga hO (Γ.length+0) (zwa (zua rfl)) (v:=rv) rfl ?_
 have hrl:=zSp (xs:=xs)
 refine zjy hO hv hw.app (by omega) ?_
 clear hO
 intro H rv2 cs2 hO hv2
 refine zaa zda ?_
 refine zaa zca ?_
 obtain⟨a0,n0,c0,e0⟩:=zTp hv2
 refine zNa hO (Γ.length+0) (zwa (zua rfl)) (by rw[e0]; rfl) (show 8 < 10 by omega) (show _=dgW (dSt xs) rv2 (xs.length+ys.length) from rfl) ?_
 clear hO
 intro H hO
 rw[List.set_append_left _ _ (by simp),Go.Ab.set_r] at hO
 replace hO:St H ((Γ++[(pd,⟨dgW (dSt xs) rv2 (xs.length+ys.length),true⟩)])++zhb rv2 cs2):=hO
 have hzl:(xs++ys).length=xs.length+ys.length:=List.length_append
 have hz:=znm hx hy
 have e1:dSt xs=stN (xs++ys) (xs.length / 64):=(zFA _ (by omega)).symm
 have e2:zLv xs++ys=(xs++ys).drop (64 * (xs.length / 64)):=by
  unfold zLv
  rw[List.drop_append_of_le_length (by omega)]
 rw[e1] at hO
 rw[e2] at hv2
 rw[← hzl] at hO
 clear e0 a0 n0 c0
 generalize hzs:xs++ys=zs at *
 refine zmg (fun k l' H'=>∃ (m:Nat) (rv:Value) (cs:List Value),64 * m≤zs.length∧k=zs.length / 64 - m∧l'=[ptr pd 0]∧St H' ((Γ++[(pd,⟨dgW (stN zs m) rv zs.length,true⟩)])++zhb rv cs)∧OwnO rv (zs.drop (64 * m)) cs) _ _ ?_ (zs.length / 64 - xs.length / 64) _ _ ⟨xs.length / 64,rv2,cs2,by omega,rfl,rfl,hO,hv2⟩
 clear hO hv2
 rintro k l' H ⟨m,rv,cs,hm,rfl,rfl,hO,hv⟩
 unfold zze
 try simp only[zia,zja]
 refine zaa zda ?_
 refine zaa zca ?_
 refine zga hO (Γ.length+0) (zwa (zua rfl)) (v:=rv) rfl ?_
 refine zCa hv.rd.lenSl ?_
 refine zaa zMf ?_
 rw[List.length_drop]
 refine zna (fun h=>?_) (fun h=>?_)
 ·refine zaa zda ?_
  refine zaa zca ?_
  refine zMa hO (Γ.length+0) (zwa (zua rfl)) (show _=w8C (stN zs m) from rfl) rfl (by omega) ?_
  refine zaa zda ?_
  refine zaa zca ?_
  refine zga hO (Γ.length+0) (zwa (zua rfl)) (v:=rv) rfl ?_
  obtain⟨vh,eh,ih⟩:=zzo (n:=64) hv.rd (by rw[List.length_drop]; omega)
  refine zaa eh ?_
  have hrd:RdB ((Γ++[(pd,(⟨dgW (stN zs m) rv zs.length,true⟩:Blk))])++zhb rv cs) vh ((zs.drop (64 * m)).take 64):=(ih _ hv.rd).app'
  refine zxD (zhu m) hO hrd (fun x hx=>hz x (List.mem_of_mem_drop (List.mem_of_mem_take hx))) (by rw[List.length_take,List.length_drop]; omega) ?_
  clear hO hrd
  intro H hO
  refine zaa zda ?_
  refine zaa zca ?_
  refine zNc hO (Γ.length+0) (zwa (zua rfl)) (show (zya (agg (w8C (zCF (stN zs m) ((zs.drop (64 * m)).take 64))))).length=8 from rfl) (show 0+8≤10 by omega) (zDs _) ?_
  clear hO
  intro H hO
  rw[List.set_append_left _ _ (by simp),Go.Ab.set_r] at hO
  replace hO:St H ((Γ++[(pd,⟨dgW (stN zs (m+1)) rv zs.length,true⟩)])++zhb rv cs):=hO
  refine zaa zda ?_
  refine zaa zca ?_
  refine zga hO (Γ.length+0) (zwa (zua rfl)) (v:=rv) rfl ?_
  obtain⟨v3,e3,o3,b3⟩:=zvH (n:=64) hv (by rw[List.length_drop]; omega) (by omega)
  refine zaa e3 ?_
  refine zaa zda ?_
  refine zaa zca ?_
  obtain⟨a0,n0,c0,e0⟩:=zTp o3
  refine zNa hO (Γ.length+0) (zwa (zua rfl)) (by rw[e0]; rfl) (show 8 < 10 by omega) (show _=dgW (stN zs (m+1)) v3 zs.length from rfl) ?_
  clear hO
  intro H hO
  rw[List.set_append_left _ _ (by simp),Go.Ab.set_r,← b3] at hO
  refine⟨_,?_,m+1,v3,cs,by omega,rfl,(by first|rfl|trivial),hO,?_⟩
  ·omega
  ·rw[List.drop_drop] at o3
   rw[show 64 * (m+1)=64 * m+64 by omega]; exact o3
 ·have em:m=zs.length / 64:=by omega
  subst em
  refine zKa rfl ?_
  refine hk H rv cs ?_ hv
  rw[← List.append_assoc]; exact hO
theorem bDg(s:W8)(a:Option Addr)(n c:Nat)(m:Nat):(zxa P 169).f [(0,agg (w8C s)),(1,.slice a n c),(2,zsb .u64 m)]=some (agg (dgW s (.slice a n c) m)):=by kernel_rfl
theorem zUJ(s:W8):(zxa P 169).f [(0,agg (w8C s))]=some (agg (dgW s zBa 0)):=by kernel_rfl
theorem zyD(hO:St H Γ)(hk:∀ H' pd,St H' (Γ++DG pd (dSt []) zBa ([]:List Int).length [])→K (ptr pd 0) H'):wCall P zij [] H K:=by
 apply zvs; unfold zdr
 refine zhy hO ?_
 clear hO
 intro H hO
 refine zaa (zUJ _) ?_
 refine zHa hO ?_
 clear hO
 intro pd H hO
 exact hk H pd hO
theorem St.ne'{i j p q:Nat}{b b':Blk}(h:St H Γ)(hi:Γ[i]?=some (p,b))(hj:Γ[j]?=some (q,b'))(hij:i≠j):p≠q:=by
 intro e
 subst e
 have n1:(Γ.map (·.1))[i]?=some p:=by rw[List.getElem?_map,hi]; rfl
 have n2:(Γ.map (·.1))[j]?=some p:=by rw[List.getElem?_map,hj]; rfl
 have hlt:i < (Γ.map (·.1)).length:=by rw[List.length_map]; exact (List.getElem?_eq_some_iff.1 hi).1
 exact hij ((List.getElem?_inj hlt h.nd).1 (n1.trans n2.symm))
theorem zUp{p o:Nat}{rv:Value}{x':List Value}(hO:St H ((Γ++[(p,(⟨x',true⟩:Blk))])++zhb rv cs))(hv:OwnO rv xs cs):zMq (zJa [ptr p o]) (zJa [.slice none 0 0,rv])∧zMq (zJa [.slice none 0 0,rv]) (zJa [ptr p o]):=by
 rcases hv with⟨rfl,_,_⟩|⟨q,o2,hv,_⟩
 ·exact⟨(by first|rfl|trivial),(by first|rfl|trivial)⟩
 have hΓ:zhb rv cs=[(q,⟨cs,true⟩)]:=by rcases hv with rfl|rfl <;> rfl
 rw[hΓ] at hO
 have hne:p≠q:=St.ne' hO (i:=Γ.length+0) (j:=(Γ++[(p,(⟨x',true⟩:Blk))]).length+0) (zwa (zua rfl)) (zua rfl) (by simp)
 have e1:Nat.beq p q=false:=by
  cases hb:Nat.beq p q with
  | false=>rfl
  | true=>exact absurd (Nat.eq_of_beq_eq_true hb) hne
 have e2:Nat.beq q p=false:=by
  cases hb:Nat.beq q p with
  | false=>rfl
  | true=>exact absurd (Nat.eq_of_beq_eq_true hb).symm hne
 rcases hv with rfl|rfl
 ·exact⟨by show zid [p] [q]=true; simp[zid,zpb,zeE,e1],by show zid [q] [p]=true; simp[zid,zpb,zeE,e2]⟩
 ·exact⟨by show zid [p] [q]=true; simp[zid,zpb,zeE,e1],by show zid [q] [p]=true; simp[zid,zpb,zeE,e2]⟩
end J
set_option maxRecDepth 100000
namespace J
open Go Go.Ab
variable{H:Heap}{Γ Γ0 Γ2 Δ G:List (Nat × Blk)}{K:VH}{v w x:Value}{xs ys zs bs b:List Int}{j p pd:Nat}{e:Int}{cs:List Value}
theorem zly{s:W8}{rv:Value}{n:Nat}(hO:St H ((Γ++DG pd s rv n cs)++Δ))(hv:OwnO rv xs cs)(hl:xs.length≤1000000000)
  (hk:∀ H' pd' rv' cs',St H' (((Γ++DG pd s rv n cs)++Δ)++DG pd' s rv' n cs')→OwnO rv' xs cs'→K (ptr pd' 0) H'):wCall P zqd [ptr pd 0] H K:=by
 apply zCj; unfold zOg
 have hA:St H ((Γ++[(pd,⟨dgW s rv n,true⟩)])++zhb rv cs):=by
  rw[List.append_assoc]; exact hO.left
 have hap:=zUp (o:=8) hA hv
 have hap2:=zUp (o:=9) hA hv
 have hap0:=zUp (o:=0) hA hv
 have i0:∀ {R:List (Nat × Blk)},(((Γ++DG pd s rv n cs)++Δ)++R)[Γ.length+0]?=some (pd,⟨dgW s rv n,true⟩):=zwa (zwa (zua rfl))
 have i0':((Γ++DG pd s rv n cs)++Δ)[Γ.length+0]?=some (pd,⟨dgW s rv n,true⟩):=zwa (zua rfl)
 have hlt:pd < H.next:=hO.lt _ (List.mem_of_getElem? i0')
 refine zaa zda ?_
 refine zaa zca ?_
 refine zMa hO _ i0' (show _=w8C s from rfl) rfl (by omega) ?_
 refine zaa zda ?_
 refine zaa zca ?_
 refine zga hO _ i0' (v:=rv) rfl ?_
 have hrd:RdB ((Γ++DG pd s rv n cs)++Δ) rv xs:=by
  have h1:RdB (Γ++DG pd s rv n cs) rv xs:=by
   rw[← List.append_assoc]; exact hv.rd.app'
  exact h1.app
 have hO2:St H (((Γ++DG pd s rv n cs)++Δ)++zhb zBa []):=by
  rw[show zhb zBa []=[] from rfl,List.append_nil]; exact hO
 refine zdj (xs:=[]) hO2 .nil hrd (by simpa using hl) ?_
 clear hO hO2 hA
 intro H2 rv2 cs2 hO hv2
 refine⟨hap0.1,?_⟩
 refine zaa zda ?_
 refine zaa zca ?_
 refine zga hO _ i0 (v:=zsb .u64 n) rfl ?_
 refine⟨hap2.2,zBq hlt,?_⟩
 have ho:=OwnB.o hv2
 obtain⟨a0,n0,c0,e0⟩:=zTp ho
 refine zaa (by rw[e0]; exact bDg s a0 n0 c0 n) ?_
 rw[← e0]
 refine zHa hO ?_
 clear hO
 intro pd2 H hO
 exact hk H pd2 rv2 cs2 (hO.perm (by
  rw[List.append_assoc]
  exact List.Perm.append_left _ List.perm_append_comm)) ho
def zoq(bs:List Int):List Value:=by8 bs++List.replicate (32 - bs.length) (zsb .u8 0)
theorem zcx{bs:List Int}(h:bs.length≤32):(zoq bs).length=32:=by simp[zoq]; omega
theorem zdx{bs:List Int}{x:Int}(h:bs.length < 32):(zoq bs).set bs.length (.int .u8 x)=zoq (bs++[x]):=by
 unfold zoq
 rw[List.set_append_right _ _ (by simp)]
 obtain⟨m,hm⟩:∃ m,32 - bs.length=m+1:=⟨31 - bs.length,by omega⟩
 rw[hm,List.length_append,show 32 - (bs.length+[x].length)=m by simp; omega,List.replicate_succ]
 simp[by8]
theorem zHh{s:W8}:(zog s).length=32:=rfl
theorem zwH:∀ (l:List Nat) (m i:Nat),m < l.length→i < 4→(l.flatMap be4)[4 * m+i]?=(be4 (l.getD m 0))[i]?
 | [],_,_,h,_=>absurd h (Nat.not_lt_zero _)
 | a::l,0,i,_,hi=>by
  rw[List.flatMap_cons,Nat.mul_zero,Nat.zero_add,List.getElem?_append_left (show i < (be4 a).length from hi)]; rfl
 | a::l,m+1,i,h,hi=>by
  rw[List.flatMap_cons,List.getElem?_append_right (show (be4 a).length≤4 * (m+1)+i by show 4≤_; omega),show 4 * (m+1)+i - (be4 a).length=4 * m+i by show _ - 4=_; omega,zwH l m i (by simpa using h) hi]; rfl
theorem zxH{w i:Nat}(h:i < 4):(be4 w)[i]?=some (((w / 2 ^ (24 - 8 * i) % 256:Nat):Int)):=by
 rcases i with _|_|_|_|i
 ·rfl
 ·rfl
 ·rfl
 ·show some ((w % 256:Nat):Int)=some (((w / 2 ^ 0 % 256:Nat):Int))
  rw[Nat.pow_zero,Nat.div_one]
 ·omega
theorem hash_step{s:W8}{m i:Nat}(hm:m < 8)(hi:i < 4):(zog s).take (4 * m+i)++[((s.l.getD m 0 / 2 ^ (24 - 8 * i) % 256:Nat):Int)]=(zog s).take (4 * m+i+1):=by
 have h1:=zwH s.l m i (show m < 8 from hm) hi
 rw[zxH hi] at h1
 rw[List.take_add_one,show (zog s)[4 * m+i]?=_ from h1]; rfl
theorem ztE{n i:Nat}(h:i < 8):(be8 n)[i]?=some (((n / 2 ^ (56 - 8 * i) % 256:Nat):Int)):=by
 unfold be8
 rw[List.getElem?_map,List.getElem?_range h]; rfl
theorem zuE{n:Nat}:∀ x ∈ be8 n,0≤x∧x≤255:=by
 intro x hx
 obtain⟨i,_,rfl⟩:=List.mem_map.1 hx
 have:=Nat.mod_lt (n / 2 ^ (56 - 8 * i)) (show 256 > 0 by decide)
 omega
theorem zmy{x:Int}(h:0≤x∧x≤255):∀ y ∈ [x],0≤y∧y≤255:=fun y hy=>by rw[List.mem_singleton.1 hy]; exact h
theorem zex{n:Nat}:∀ y ∈ List.replicate n (0:Int),0≤y∧y≤255:=fun y hy=>by rw[(List.mem_replicate.1 hy).2]; decide
theorem zFG(x:Int)(H:Heap):(zoa P 22 1).f [(0,.int .u8 x)] H=some (sl H.next 0 1 3,H.push [.int .u8 x]):=by kernel_rfl
theorem zKA{q c:Nat}{x:Int}(hc:c=2∨c=3):RdB (Γ++[(q,(⟨[.int .u8 x],true⟩:Blk))]) (sl q 0 1 c) [x]:=.inr ⟨q,0,c,rfl,hc,.inr ⟨Γ.length+0,_,zua rfl,rfl⟩⟩
theorem zKF:zc P 28=List.replicate 32 (zsb .u8 0):=by kernel_rfl
end J
set_option maxRecDepth 100000
namespace J
open Go Go.Ab
variable{H:Heap}{Γ Γ0 Γ2 Δ G:List (Nat × Blk)}{K:VH}{v w x:Value}{xs ys zs bs b:List Int}{j p pd pz:Nat}{e:Int}{cs:List Value}
structure Dg (pd:Nat) (xs:List Int) (L:List (Nat × Blk)):Prop where
 intro' ::
 ex:∃ rv cs,L=DG pd (dSt xs) rv xs.length cs∧OwnO rv (zLv xs) cs
theorem zCo{L:List (Nat × Blk)}(hO:St H (Γ++L))(hd:Dg pd xs L)(hw:RdB Γ w ys)(hx:∀ x ∈ xs,0≤x∧x≤255)(hy:∀ x ∈ ys,0≤x∧x≤255)(hl:xs.length≤100000000)(hl2:ys.length≤100000000)
  (hk:∀ H' L',St H' (Γ++L')→Dg pd (xs++ys) L'→K (.tuple [].toArray) H'):wCall P zPa [ptr pd 0,w] H K:=by
 obtain⟨rv,cs,rfl,hv⟩:=hd.ex
 exact zky hO hv hw hx hy hl hl2 fun H' rv' cs' h1 h2=>hk H' _ h1 ⟨rv',cs',rfl,h2⟩
theorem swp{L:List (Nat × Blk)}{y:Nat × Blk}(hO:St H ((Γ++L)++[y])):St H ((Γ++[y])++L):=hO.perm (by
 rw[List.append_assoc,List.append_assoc]
 exact List.Perm.append_left _ List.perm_append_comm)
theorem drp{L:List (Nat × Blk)}{y:Nat × Blk}(hO:St H ((Γ++[y])++L)):St H (Γ++L):=hO.sub (by
 rw[List.append_assoc]
 exact List.Sublist.append (List.Sublist.refl _) (List.sublist_append_right _ _))
theorem zyH{L:List (Nat × Blk)}{p2 n:Nat}{Qx:LX}{Qr:LN}(hO:St H (Γ++L))(hd:Dg pd (xs++[128]) L)(hx:∀ x ∈ xs,0≤x∧x≤255)(hl:xs.length≤90000000)
  (hk:∀ H' L',St H' (Γ++L')→Dg pd (xs++[128]++List.replicate (zcn xs.length) 0) L'→Qx 0 [ptr p2 0,ptr pd 0,zsb .u64 n] H') :
  zdb P true 67 zrd 28 [ptr p2 0,ptr pd 0,zsb .u64 n] H Qx Qr:=by
 refine zzh (fun k l' H'=>∃ (y:Nat) (L:List (Nat × Blk)),y≤zcn xs.length∧k=zcn xs.length - y∧l'=[ptr p2 0,ptr pd 0,zsb .u64 n]∧St H' (Γ++L)∧Dg pd (xs++[128]++List.replicate y 0) L) _ _ ?_ (zcn xs.length) _ _ ⟨0,L,by omega,rfl,rfl,hO,by rw[List.replicate_zero,List.append_nil]; exact hd⟩
 clear hO hd
 rintro k l' H ⟨y,L,hy,rfl,rfl,hO,hd⟩
 unfold ztf
 try simp only[zia,zja]
 obtain⟨rv,cs,rfl,hv⟩:=hd.ex
 have hlen:(xs++[128]++List.replicate y (0:Int)).length=xs.length+1+y:=by simp; omega
 have hpz:zcn xs.length < 64:=Nat.mod_lt _ (by decide)
 refine zaa zda ?_
 refine zaa zca ?_
 refine zga hO (Γ.length+0) (zua rfl) (v:=rv) rfl ?_
 refine zCa hv.rd.lenSl ?_
 refine zaa zGb ?_
 rw[zSp,hlen]
 refine zna (fun h=>?_) (fun h=>?_)
 ·have hlt:y < zcn xs.length:=by
   unfold zcn at hy ⊢
   omega
  refine zbb hO (zFG 0 _) ?_
  clear hO
  intro q H hO
  have hO2:=swp hO
  refine zCo hO2 hd (zKA (.inr rfl)) (znm (znm hx (zmy (by decide))) zex) (zmy (by decide)) (by omega) (by simp) ?_
  clear hO hO2 hd
  intro H L hO hd
  rw[List.append_assoc _ (List.replicate y 0),← List.replicate_succ'] at hd
  repeat (first|refine oi ?_|refine ow ?_|refine wy ?_|refine wn ?_|refine wt ?_|refine wf' ?_|refine cy ?_|refine cn ?_)
  exact⟨zcn xs.length - (y+1),by omega,y+1,L,by omega,rfl,(by first|rfl|trivial),drp hO,hd⟩
 ·have hy:y=zcn xs.length:=by
   unfold zcn at hy ⊢
   omega
  subst hy
  exact hk H _ hO hd
theorem zzH{L:List (Nat × Blk)}{p2 n:Nat}{Qx:LX}{Qr:LN}(hO:St H (Γ++L))(hd:Dg pd zs L)(hx:∀ x ∈ zs,0≤x∧x≤255)(hl:zs.length≤95000000)(hn:n < 18446744073709551616)
  (hk:∀ H' L',St H' (Γ++L')→Dg pd (zs++be8 n) L'→Qx 2 [ptr p2 0,ptr pd 0] H') :
  zdb P true 67 zsd 12 [ptr p2 0,ptr pd 0,zsb .u64 n,int 0] H Qx Qr:=by
 refine zAh (fun k l' H'=>∃ (y:Nat) (L:List (Nat × Blk)),y≤8∧k=8 - y∧l'=[ptr p2 0,ptr pd 0,zsb .u64 n,int y]∧St H' (Γ++L)∧Dg pd (zs++(be8 n).take y) L) _ _ ?_ 8 _ _ ⟨0,L,by omega,rfl,rfl,hO,by rw[List.take_zero,List.append_nil]; exact hd⟩
 clear hO hd
 rintro k l' H ⟨y,L,hy,rfl,rfl,hO,hd⟩
 unfold zuf
 try simp only[zia,zja]
 refine zaa zIa ?_
 refine zna (fun h=>?_) (fun h=>?_)
 ·have hy8:y < 8:=by omega
  refine zaa (v:=int ((8 * y:Nat):Int)) (by rw[zQe (by omega) (by omega)]; congr 2 <;> omega) ?_
  refine zaa (v:=int ((56 - 8 * y:Nat):Int)) (by rw[zub (by omega) (by omega)]; congr 2 <;> omega) ?_
  refine zaa (zzf (k:=.u64) rfl (show 56 - 8 * y≤64 by omega)) ?_
  refine zCa (cvU (k':=.u8) rfl) ?_
  refine zbb hO (zFG _ _) ?_
  clear hO
  intro q H hO
  have hO2:=swp hO
  have hb:(0:Int)≤((n / 2 ^ (56 - 8 * y) % szU .u8:Nat):Int)∧((n / 2 ^ (56 - 8 * y) % szU .u8:Nat):Int)≤255:=by
   have:=Nat.mod_lt (n / 2 ^ (56 - 8 * y)) (show szU .u8 > 0 by decide)
   have e:szU .u8=256:=rfl
   rw[e] at this ⊢
   omega
  refine zCo hO2 hd (zKA (.inr rfl)) (znm hx fun x hx=>zuE x (List.mem_of_mem_take hx)) (zmy hb) (by rw[List.length_append,List.length_take]; omega) (by simp) ?_
  clear hO hO2 hd
  intro H L hO hd
  have e:(be8 n).take y++[((n / 2 ^ (56 - 8 * y) % szU .u8:Nat):Int)]=(be8 n).take (y+1):=by
   rw[List.take_add_one,ztE hy8]; rfl
  rw[List.append_assoc,e] at hd
  repeat (first|refine oi ?_|refine ow ?_|refine wy ?_|refine wn ?_|refine wt ?_|refine wf' ?_|refine cy ?_|refine cn ?_)
  exact⟨8 - (y+1),by omega,y+1,L,by omega,rfl,rfl,drp hO,hd⟩
 ·have hy:y=8:=by omega
  subst hy
  rw[List.take_of_length_le (by rw[zCs]; omega)] at hd
  exact hk H L hO hd
theorem zAH{s:W8}{p2 p6 m:Nat}{v4 v5:Value}{Qx:LX}{Qr:LN}(hm:m < 8)(hO:St H (Γ++[(p6,⟨zoq ((zog s).take (4 * m)),true⟩)]))
  (hk:∀ H',St H' (Γ++[(p6,⟨zoq ((zog s).take (4 * (m+1))),true⟩)])→Qx 6 [ptr p2 0,ptr p6 0,v4,v5] H') :
  zdb P true 67 zud 105553116266564 [ptr p2 0,ptr p6 0,int m,u32 (s.l.getD m 0),v4,v5,int 0] H Qx Qr:=by
 refine zCh (fun k l' H'=>∃ (y:Nat),y≤4∧k=4 - y∧l'=[ptr p2 0,ptr p6 0,int m,u32 (s.l.getD m 0),v4,v5,int y]∧St H' (Γ++[(p6,⟨zoq ((zog s).take (4 * m+y)),true⟩)])) _ _ ?_ 4 _ _ ⟨0,by omega,rfl,rfl,hO⟩
 clear hO
 rintro k l' H ⟨y,hy,rfl,rfl,hO⟩
 unfold zwf
 try simp only[zia,zja]
 refine zaa zIa ?_
 refine zna (fun h=>?_) (fun h=>?_)
 ·have hy4:y < 4:=by omega
  have hlen:((zog s).take (4 * m+y)).length=4 * m+y:=by rw[List.length_take,zHh]; omega
  refine zaa (v:=int ((4 * m:Nat):Int)) (by rw[zQe (by omega) (by omega)]; congr 2 <;> omega) ?_
  refine zaa (v:=int ((4 * m+y:Nat):Int)) (by rw[zYa (by omega) (by omega)]; congr 2 <;> omega) ?_
  refine zaa (v:=int ((8 * y:Nat):Int)) (by rw[zQe (by omega) (by omega)]; congr 2 <;> omega) ?_
  refine zaa (v:=int ((24 - 8 * y:Nat):Int)) (by rw[zub (by omega) (by omega)]; congr 2 <;> omega) ?_
  refine zaa (zzf (k:=.u32) rfl (show 24 - 8 * y≤32 by omega)) ?_
  refine zCa (cvU (k':=.u8) rfl) ?_
  refine zaa (zqa (by omega) (by omega)) ?_
  rw[Int.toNat_natCast]
  refine zNa hO (Γ.length+0) (zua rfl) rfl (show 0+(4 * m+y) * 1 < (zoq ((zog s).take (4 * m+y))).length by rw[zcx (by omega)]; omega) (show _=zoq ((zog s).take (4 * m+y+1)) from ?_) ?_
  ·rw[← hash_step hm hy4,← zdx (by omega),hlen,show 0+(4 * m+y) * 1=4 * m+y by omega]
   rfl
  clear hO
  intro H hO
  replace hO:=hO.set_r
  repeat (first|refine oi ?_|refine ow ?_|refine wy ?_|refine wn ?_|refine wt ?_|refine wf' ?_|refine cy ?_|refine cn ?_)
  exact⟨4 - (y+1),by omega,y+1,by omega,rfl,rfl,hO⟩
 ·have hy:y=4:=by omega
  subst hy
  exact hk H hO
theorem zLF(s:W8):zpi 8 1 (zul P 161).f (agg (w8C s)) (int 0)=some (u32 s.a):=by kernel_rfl
theorem zMF(s:W8):zpi 8 1 (zul P 161).f (agg (w8C s)) (int 1)=some (u32 s.b):=by kernel_rfl
theorem zNF(s:W8):zpi 8 1 (zul P 161).f (agg (w8C s)) (int 2)=some (u32 s.c):=by kernel_rfl
theorem zOF(s:W8):zpi 8 1 (zul P 161).f (agg (w8C s)) (int 3)=some (u32 s.d):=by kernel_rfl
theorem zPF(s:W8):zpi 8 1 (zul P 161).f (agg (w8C s)) (int 4)=some (u32 s.e):=by kernel_rfl
theorem zQF(s:W8):zpi 8 1 (zul P 161).f (agg (w8C s)) (int 5)=some (u32 s.f):=by kernel_rfl
theorem zRF(s:W8):zpi 8 1 (zul P 161).f (agg (w8C s)) (int 6)=some (u32 s.g):=by kernel_rfl
theorem zSF(s:W8):zpi 8 1 (zul P 161).f (agg (w8C s)) (int 7)=some (u32 s.h):=by kernel_rfl
theorem zYI{s:W8}{m:Nat}(h:m < 8):zpi 8 1 (zul P 161).f (agg (w8C s)) (int m)=some (u32 (s.l.getD m 0)):=by
 rcases m with _|_|_|_|_|_|_|_|m
 ·exact zLF s
 ·exact zMF s
 ·exact zNF s
 ·exact zOF s
 ·exact zPF s
 ·exact zQF s
 ·exact zRF s
 ·exact zSF s
 ·omega
theorem zBH{s:W8}{p2 p6:Nat}{Qx:LX}{Qr:LN}(hO:St H (Γ++[(p6,⟨zoq [],true⟩)]))
  (hk:∀ H',St H' (Γ++[(p6,⟨by8 (zog s),true⟩)])→Qx 4 [ptr p2 0,ptr p6 0] H') :
  zdb P true 67 ztd 68 [ptr p2 0,ptr p6 0,agg (w8C s),int 0] H Qx Qr:=by
 refine zBh (fun k l' H'=>∃ (y:Nat),y≤8∧k=8 - y∧l'=[ptr p2 0,ptr p6 0,agg (w8C s),int y]∧St H' (Γ++[(p6,⟨zoq ((zog s).take (4 * y)),true⟩)])) _ _ ?_ 8 _ _ ⟨0,by omega,rfl,rfl,hO⟩
 clear hO
 rintro k l' H ⟨y,hy,rfl,rfl,hO⟩
 unfold zvf
 try simp only[zia,zja]
 refine zaa zIa ?_
 refine zna (fun h=>?_) (fun h=>?_)
 ·have hy8:y < 8:=by omega
  refine zaa (zYI hy8) ?_
  refine zAH hy8 hO ?_
  clear hO
  intro H hO
  refine zKa rfl ?_
  try simp only[zia,zja]
  repeat (first|refine oi ?_|refine ow ?_|refine wy ?_|refine wn ?_|refine wt ?_|refine wf' ?_|refine cy ?_|refine cn ?_)
  exact⟨8 - (y+1),by omega,y+1,by omega,rfl,rfl,hO⟩
 ·have hy:y=8:=by omega
  subst hy
  have e:zoq ((zog s).take (4 * 8))=by8 (zog s):=by
   rw[List.take_of_length_le (by rw[zHh]; omega)]
   unfold zoq
   rw[zHh,Nat.sub_self,List.replicate_zero,List.append_nil]
  rw[e] at hO
  exact hk H hO
end J
set_option maxRecDepth 100000
namespace J
open Go Go.Ab
variable{H:Heap}{Γ Γ0 Γ2 Δ G:List (Nat × Blk)}{K:VH}{v w x:Value}{xs ys zs bs b:List Int}{j p pd pz:Nat}{e:Int}{cs:List Value}
set_option maxHeartbeats 2000000 in
theorem zLA{L:List (Nat × Blk)}(hO:St H (Γ++L))(hd:Dg pd xs L)(hx:∀ x ∈ xs,0≤x∧x≤255)(hl:xs.length≤80000000)
  (hk:∀ H',St H' (Γ++L)→K (agg (by8 (sha xs))) H'):wCall P zjb [ptr pd 0] H K:=by
 obtain⟨rv,cs,rfl,hv⟩:=hd.ex
 apply znk; unfold zDh
 rw[zKF]
 refine zHa hO ?_
 clear hO
 intro p2 H hO
 have hrl:=zSp (xs:=xs)
 refine zly hO hv (by omega) ?_
 clear hO
 intro H pd2 rv2 cs2 hO hv2
 have hd2:Dg pd2 xs (DG pd2 (dSt xs) rv2 xs.length cs2):=⟨rv2,cs2,rfl,hv2⟩
 refine zaa zda ?_
 refine zaa zca ?_
 refine zga hO (_+0) (zua rfl) (v:=zsb .u64 xs.length) rfl ?_
 refine zaa (v:=zsb .u64 (8 * xs.length)) (by
  rw[show (Value.int .u64 8)=zsb .u64 8 from rfl,zis (k:=.u64) rfl,Nat.mod_eq_of_lt (show xs.length * 8 < szU .u64 from (show _ < 18446744073709551616 by omega)),Nat.mul_comm]) ?_
 refine zbb hO (zFG 128 _) ?_
 clear hO
 intro q H hO
 have hO2:=swp hO
 refine zCo hO2 hd2 (zKA (.inr rfl)) hx (zmy (by decide)) (by omega) (by simp) ?_
 clear hO hO2 hd2
 intro H L hO hd2
 refine zyH (drp hO) hd2 hx (by omega) ?_
 clear hO hd2
 intro H L hO hd2
 refine zKa rfl ?_
 try simp only[zia,zja]
 have hpz:zcn xs.length < 64:=Nat.mod_lt _ (by decide)
 have hzb:∀ x ∈ xs++[128]++List.replicate (zcn xs.length) 0,0≤x∧x≤255:=znm (znm hx (zmy (by decide))) zex
 refine zzH hO hd2 hzb (by simp; omega) (by omega) ?_
 clear hO hd2
 intro H L hO hd2
 refine zKa rfl ?_
 try simp only[zia,zja]
 replace hd2:Dg pd2 (zEA xs) L:=hd2
 obtain⟨rv3,cs3,rfl,hv3⟩:=hd2.ex
 refine zHa hO ?_
 clear hO
 intro p6 H hO
 refine zaa zda ?_
 refine zaa zca ?_
 refine zMa hO (_+0) (zwa (zua rfl)) (show _=w8C (dSt (zEA xs)) from rfl) rfl (by omega) ?_
 refine zBH hO ?_
 clear hO
 intro H hO
 refine zKa rfl ?_
 try simp only[zia,zja]
 refine zMa hO (_+0) (zua rfl) (show _=by8 (sha xs) from rfl) rfl (by omega) ?_
 have i2:∀ {R R2:List (Nat × Blk)},((((Γ++DG pd (dSt xs) rv xs.length cs)++[(p2,(⟨List.replicate 32 (zsb .u8 0),true⟩:Blk))])++R)++R2)[(Γ++DG pd (dSt xs) rv xs.length cs).length+0]?=some (p2,⟨List.replicate 32 (zsb .u8 0),true⟩):=zwa (zwa (zua rfl))
 refine zNc hO _ i2 rfl (show 0+32≤32 by omega) (show (by8 (sha xs)).all oneCell=true by simp[oneCell]) ?_
 clear hO
 intro H hO
 rw[List.set_append_left _ _ (by simp),List.set_append_left _ _ (by simp),Go.Ab.set_r] at hO
 refine zMa hO ((Γ++DG pd (dSt xs) rv xs.length cs).length+0) (zwa (zwa (zua rfl))) (show _=by8 (sha xs) from rfl) rfl (by omega) ?_
 exact hk H hO.left.left.left
theorem zVJ(a:Option Addr)(n c:Nat)(H:Heap):(zoa P 154 1).f [(0,.slice a n c)] H=some (sl H.next 0 1 3,H.push [.slice a n c]):=by kernel_rfl
theorem zMA{q:Nat}(hO:St H Γ)(hq:Γ[j]?=some (q,(⟨[v],true⟩:Blk)))(hv:RdB Γ v xs)(hx:∀ x ∈ xs,0≤x∧x≤255)(hl:xs.length≤80000000)
  (hk:∀ H',St H' Γ→K (agg (by8 (sha xs))) H'):wCall P zDg [sl q 0 1 3] H K:=by
 apply zus; unfold zcr
 rw[zKF]
 refine zHa hO ?_
 clear hO
 intro p2 H hO
 refine zyD hO ?_
 clear hO
 intro H pd hO
 have hd:Dg pd [] (DG pd (dSt []) zBa ([]:List Int).length []):=⟨zBa,[],rfl,.inl ⟨rfl,rfl,rfl⟩⟩
 refine zCa zzg ?_
 generalize (DG pd (dSt []) zBa ([]:List Int).length [])=L at *
 refine zTm (fun k l' H'=>∃ (y:Nat) (L:List (Nat × Blk)),y≤1∧k=1 - y∧l'=[ptr p2 0,ptr pd 0,sl q 0 1 3,int 1,int y]∧St H' ((Γ++[(p2,⟨List.replicate 32 (zsb .u8 0),true⟩)])++L)∧Dg pd (if y=0 then [] else xs) L) _ _ ?_ 1 _ _ ⟨0,L,by omega,rfl,rfl,hO,hd⟩
 clear hO hd
 rintro k l' H ⟨y,L,hy,rfl,rfl,hO,hd⟩
 unfold zdm
 try simp only[zia,zja]
 refine zaa zIa ?_
 refine zna (fun h=>?_) (fun h=>?_)
 ·have hy0:y=0:=by omega
  subst hy0
  refine zaa (zfb (by omega) (by omega)) ?_
  refine zga hO j (zwa (zwa hq)) (v:=v) rfl ?_
  refine zCo hO hd hv.app (by intro x hx; cases hx) hx (by simp) (by omega) ?_
  clear hO hd
  intro H L hO hd
  repeat (first|refine oi ?_|refine ow ?_|refine wy ?_|refine wn ?_|refine wt ?_|refine wf' ?_|refine cy ?_|refine cn ?_)
  exact⟨0,by omega,1,L,by omega,rfl,rfl,hO,hd⟩
 ·have hy0:y=1:=by omega
  subst hy0
  refine zKa rfl ?_
  try simp only[zia,zja]
  refine zLA hO hd hx hl ?_
  clear hO
  intro H hO
  refine zNc hO (Γ.length+0) (zwa (zua rfl)) rfl (show 0+32≤32 by omega) (show (by8 (sha xs)).all oneCell=true by simp[oneCell]) ?_
  clear hO
  intro H hO
  rw[List.set_append_left _ _ (by simp),Go.Ab.set_r] at hO
  refine zMa hO (Γ.length+0) (zwa (zua rfl)) (show _=by8 (sha xs) from rfl) rfl (by omega) ?_
  exact hk H hO.left.left
end J
set_option maxRecDepth 100000
namespace J
open Go Go.Ab
variable{H:Heap}{Γ Γ0 Γ2 Δ G:List (Nat × Blk)}{K:VH}{v w x:Value}{xs ys zs bs b:List Int}{j p pd pz:Nat}{e:Int}{cs:List Value}{L:Mloc}{m:Mp}{part pos:Int}
def Mp.upto(m:Mp)(part:Int)(n:Nat):List Int:=(List.range n).flatMap fun (i:Nat)=>(m.read part i).1
def Mp.all(m:Mp)(part:Int):List Int:=m.upto part (m.size part)
theorem Mp.upto_succ{n:Nat}:m.upto part (n+1)=m.upto part n++(m.read part n).1:=by
 unfold Mp.upto
 rw[List.range_succ,List.flatMap_append,List.flatMap_cons,List.flatMap_nil,List.append_nil]
theorem Mp.upto_len(ok:m.Ok):∀ n,(m.upto part n).length=64 * n
 | 0=>rfl
 | n+1=>by rw[Mp.upto_succ,List.length_append,Mp.upto_len ok n,Mp.read_len ok]; omega
theorem Mp.size_le(ok:m.Ok):m.size part≤4096:=by
 unfold Mp.size
 split
 ·rename_i h
  have h1:=ok.s _ (Mp.span_mem h)
  have h2:=ok.d.n
  omega
 ·omega
theorem zEj(ok:m.Ok)(hO:St H (Γ++MW L m))(hk:∀ H' v cs,St H' ((Γ++MW L m)++zhb v cs)→OwnB v (m.all part) cs→K v H'):wCall P zIb [ptr L.pm 0,int part] H K:=by
 apply zup; unfold zvn
 have hsz:=Mp.size_le ok (part:=part)
 refine zgr hO ?_
 refine zXk (fun k l' H'=>∃ (y:Nat) (v:Value) (cs:List Value),y≤m.size part∧k=m.size part - y∧l'=[ptr L.pm 0,int part,zBa,v,int (m.size part),int y]∧St H' ((Γ++MW L m)++zhb v cs)∧OwnB v (m.upto part y) cs) _ _ ?_ (m.size part) _ _ ⟨0,zBa,[],by omega,rfl,rfl,by rw[show zhb zBa []=[] from rfl,List.append_nil]; exact hO,.nil⟩
 clear hO
 rintro k l' H ⟨y,v,cs,hy,rfl,rfl,hO,hv⟩
 unfold zmj
 try simp only[zia,zja]
 refine zaa zIa ?_
 refine zna (fun h=>?_) (fun h=>?_)
 ·have hyl:y < m.size part:=by omega
  refine zhr ok hO.rot ?_
  clear hO
  intro H hO
  have hrl:=Mp.read_len ok (part:=part) (pos:=y)
  refine zaa zXt ?_
  refine zaa zYt ?_
  rw[zcS]
  refine zHa hO ?_
  clear hO
  intro p7 H hO
  replace hO:St H (((Γ++MW L m)++[(p7,⟨by8 zeros,true⟩)])++zhb v cs):=hO.perm (by classical exact List.perm_iff_count.2 fun _=>by simp only[List.count_append,List.count_nil,List.set_cons_zero]; omega)
  refine zra hO ((Γ++MW L m).length+0) (zwa (zua rfl)) (by rw[zsa]; rfl) (by rw[zsa]; exact hrl) (zvd _) ?_
  clear hO
  intro H hO
  rw[List.set_append_left _ _ (by simp),Go.Ab.set_r] at hO
  replace hO:St H (((Γ++MW L m)++[(p7,⟨by8 (m.read part y).1,true⟩)])++zhb v cs):=hO
  refine zaa (zGt hO ((Γ++MW L m).length+0) (zwa (zua rfl)) (by omega) (by show 0+64≤(by8 (m.read part y).1).length; rw[zsa,hrl]; exact Nat.le_refl 64)) ?_
  have hrd:RdB ((Γ++MW L m)++[(p7,(⟨by8 (m.read part y).1,true⟩:Blk))]) (sl p7 0 64 3) (m.read part y).1:=.inr ⟨p7,0,3,by rw[hrl],.inr rfl,.inr ⟨(Γ++MW L m).length+0,_,zua rfl,by
   rw[List.drop_zero,List.take_of_length_le (by show (by8 _).length≤_; rw[zsa]; exact Nat.le_refl _)]⟩⟩
  refine zdj hO hv hrd (by rw[Mp.upto_len ok,hrl]; omega) ?_
  clear hO
  intro H v2 cs2 hO hv2
  rw[← Mp.upto_succ] at hv2
  repeat (first|refine oi ?_|refine ow ?_|refine wy ?_|refine wn ?_|refine wt ?_|refine wf' ?_|refine cy ?_|refine cn ?_)
  exact⟨m.size part - (y+1),by omega,y+1,v2,cs2,by omega,rfl,rfl,St.mid hO,hv2⟩
 ·have hyl:y=m.size part:=by omega
  subst hyl
  refine zKa rfl ?_
  exact hk H v cs hO hv
end J
