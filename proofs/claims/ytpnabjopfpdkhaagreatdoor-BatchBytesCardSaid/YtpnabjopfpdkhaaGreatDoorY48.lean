/- Lemmas. -/
import Derived.Test.YtpnabjopfpdkhaaGreatDoorY28
import Derived.Test.YtpnabjopfpdkhaaGreatDoorY47
set_option linter.all false
set_option maxHeartbeats 4000000
set_option maxRecDepth 20000
namespace Go.Proofs.YtpnabjopfpdkhaaGreatDoor
open Tryz RowKit
attribute [go_sem] more_more Array.size_append
def ofP_five {L:Toks} {m n:Nat} (h:(tk L m).1.k=5):ofP L 5 m n=.ok ((tk L m).1,m+1,[]):=by unfold ofP;rw[if_pos h]
def must3_bind {α:Type} (L:Toks) (a b c:ByteArray) (f:Unit->PM α):pbind (mustP L [a,b,c]) f=pbind (must1 L a) fun _=>pbind (must1 L b) fun _=>pbind (must1 L c) f:=by
 funext m n
 have pe:∀ {s:ByteArray} {m n:Nat},isP L s m=false->must1 L s m n=.error (3,(tk L m).2):=fun h=>by unfold must1;rw[h];rfl
 have po:∀ {s:ByteArray} {m n:Nat},isP L s m=true->must1 L s m n=.ok ((),m+1,[]):=fun h=>by unfold must1;rw[h];rfl
 cases h1:isP L a m
 . rw[qap (qdh h1),qap (pe h1)]
 . rw[qai (po h1),qaF];dsimp only[List.length_nil,Nat.add_zero];cases h2:isP L b (m+1)
   . rw[qap ((qbp h1).trans (qdh h2)),qap (pe h2)]
   . rw[qai (po h2),qaF];dsimp only[List.length_nil,Nat.add_zero];cases h3:isP L c (m+1+1)
     . rw[qap (((qbp h1).trans (qbp h2)).trans (qdh h3)),qap (pe h3)]
     . rw[qai (((qbp h1).trans (qbp h2)).trans (must1_yes h3)),qai (po h3)]
def nine_not {l:List UInt8} {t:ByteArray} (ht:t.toList=l) (h0:l≠[108,101,116]) (h1:l≠[115,101,116]) (h2:l≠[112,117,116]) (h3:l≠[100,101,108,101,116,101]) (h4:l≠[97,98,111,114,116]) (h5:l≠[114,101,116,117,114,110]) (h6:l≠[105,102]) (h7:l≠[102,111,114]) (h8:l≠[114,101,112,101,97,116]):nine.any (fun s=>t.toList==s.toList)=false:=by
 have e:nine.map (fun s=>s.toList)=[[108,101,116],[115,101,116],[112,117,116],[100,101,108,101,116,101],[97,98,111,114,116],[114,101,116,117,114,110],[105,102],[102,111,114],[114,101,112,101,97,116]]:=zv;have e2:nine.any (fun s=>t.toList==s.toList)=(nine.map (fun s=>s.toList)).any (fun x=>l==x):=by rw[List.any_map,ht];rfl
 rw[e2,e];have b:∀ x:List UInt8,l≠x->(l==x)=false:=fun x hx=>by simpa using hx
 simp only[List.any_cons,List.any_nil,b _ h0,b _ h1,b _ h2,b _ h3,b _ h4,b _ h5,b _ h6,b _ h7,b _ h8,Bool.or_self]
def qda {L:Toks} {m:Nat} (h:qba L m=true):(tk L m).1.k=5:=by
 unfold qba at h;rw[Bool.and_eq_true,beq_iff_eq] at h;exact h.1
def rst_cases {L:Toks} {ex br:PM Int} {r:PR Int} {m n:Nat} (hbg:qba L m=true) (hr:stmtP L ex br m n=r) :
  (∃ k,((tk L m).1.s.toList=[108,101,116]/\k=20\/(tk L m).1.s.toList=[115,101,116]/\k=21)/\qbE L k ex m n=r)\/((tk L m).1.s.toList=[112,117,116]/\putP L ex m n=r) \/
  (∃ k,((tk L m).1.s.toList=[100,101,108,101,116,101]/\k=23\/(tk L m).1.s.toList=[97,98,111,114,116]/\k=27\/(tk L m).1.s.toList=[114,101,116,117,114,110]/\k=28)/\qaH L k ex m n=r) \/
  ((tk L m).1.s.toList=[105,102]/\whenP L ex br m n=r)\/((tk L m).1.s.toList=[102,111,114]/\eachP L ex br m n=r)\/((tk L m).1.s.toList=[114,101,112,101,97,116]/\qdM L br m n=r):=by
 unfold stmtP sIs at hr;rw[if_neg (by rw[qda hbg];simp)] at hr;simp only[beq_iff_eq] at hr
 iterate 9
  split at hr
  . first
      | exact .inl ⟨_,.inl ⟨zo,rfl⟩,hr⟩
      | exact .inl ⟨_,.inr ⟨zo,rfl⟩,hr⟩
      | exact .inr (.inl ⟨zo,hr⟩)
      | exact .inr (.inr (.inl ⟨_,.inl ⟨zo,rfl⟩,hr⟩))
      | exact .inr (.inr (.inl ⟨_,.inr (.inl ⟨zo,rfl⟩),hr⟩))
      | exact .inr (.inr (.inl ⟨_,.inr (.inr ⟨zo,rfl⟩),hr⟩))
      | exact .inr (.inr (.inr (.inl ⟨zo,hr⟩)))
      | exact .inr (.inr (.inr (.inr (.inl ⟨zo,hr⟩))))
      | exact .inr (.inr (.inr (.inr (.inr ⟨zo,hr⟩))))
 exfalso;unfold qba at hbg;rw[nine_not rfl zo zo zo zo zo zo zo zo zo] at hbg;simp at hbg
section
variable {b lb lo cap m:Nat} {L:Toks} {N:List Nd} {nv:Value} {w W:World} {F:List (Nat × Obj)} {r:PR Unit} {Q:Ending->World->Prop} {β:Type} {res:PR β} {k:Nat} {c0 c1 c2 c3 c4 c5 c6 c7 v:Value}
def US.al {o:Obj} (S:Hid (US b lb lo cap L m N nv W F r w)):Hid (US b lb lo cap L m N nv W ((w.heap.size,o)::F) r (w.alloc o)):=J (S.out.new o)
def US.s1 (S:Hid (US b lb lo cap L m N nv W [(k,.cells #[c0,c1,c2,c3,c4,c5,c6,c7] 166 (0,0))] r w)):Hid (US b lb lo cap L m N nv W [(k,.cells #[c0,v,c2,c3,c4,c5,c6,c7] 166 (0,0))] r (w.setCell ⟨k,1,none⟩ v)):=J (S.out.set 1 v)
def US.s2 (S:Hid (US b lb lo cap L m N nv W [(k,.cells #[c0,c1,c2,c3,c4,c5,c6,c7] 166 (0,0))] r w)):Hid (US b lb lo cap L m N nv W [(k,.cells #[c0,c1,v,c3,c4,c5,c6,c7] 166 (0,0))] r (w.setCell ⟨k,2,none⟩ v)):=J (S.out.set 2 v)
def US.s3 (S:Hid (US b lb lo cap L m N nv W [(k,.cells #[c0,c1,c2,c3,c4,c5,c6,c7] 166 (0,0))] r w)):Hid (US b lb lo cap L m N nv W [(k,.cells #[c0,c1,c2,v,c4,c5,c6,c7] 166 (0,0))] r (w.setCell ⟨k,3,none⟩ v)):=J (S.out.set 3 v)
def US.s5 (S:Hid (US b lb lo cap L m N nv W [(k,.cells #[c0,c1,c2,c3,c4,c5,c6,c7] 166 (0,0))] r w)):Hid (US b lb lo cap L m N nv W [(k,.cells #[c0,c1,c2,c3,c4,v,c6,c7] 166 (0,0))] r (w.setCell ⟨k,5,none⟩ v)):=J (S.out.set 5 v)
def US.s6 (S:Hid (US b lb lo cap L m N nv W [(k,.cells #[c0,c1,c2,c3,c4,c5,c6,c7] 166 (0,0))] r w)):Hid (US b lb lo cap L m N nv W [(k,.cells #[c0,c1,c2,c3,c4,c5,v,c7] 166 (0,0))] r (w.setCell ⟨k,6,none⟩ v)):=J (S.out.set 6 v)
def US.s7 (S:Hid (US b lb lo cap L m N nv W [(k,.cells #[c0,c1,c2,c3,c4,c5,c6,c7] 166 (0,0))] r w)):Hid (US b lb lo cap L m N nv W [(k,.cells #[c0,c1,c2,c3,c4,c5,c6,v] 166 (0,0))] r (w.setCell ⟨k,7,none⟩ v)):=J (S.out.set 7 v)
def US.look (S:Hid (US b lb lo cap L m N nv W [(k,.cells #[c0,c1,c2,c3,c4,c5,c6,c7] 166 (0,0))] r w)):k<w.heap.size/\(∀ i,w.frozen? ⟨k,i,none⟩=false)/\w.cell? ⟨k,0,none⟩=some c0/\w.cell? ⟨k,1,none⟩=some c1/\w.cell? ⟨k,2,none⟩=some c2/\w.cell? ⟨k,3,none⟩=some c3/\w.cell? ⟨k,4,none⟩=some c4/\w.cell? ⟨k,5,none⟩=some c5/\w.cell? ⟨k,6,none⟩=some c6/\w.cell? ⟨k,7,none⟩=some c7 :=
 ⟨S.out.kb.lt,fun i=>S.out.kb.frozen i,S.out.kb.cell 0 _ rfl,S.out.kb.cell 1 _ rfl,S.out.kb.cell 2 _ rfl,S.out.kb.cell 3 _ rfl,S.out.kb.cell 4 _ rfl,S.out.kb.cell 5 _ rfl,S.out.kb.cell 6 _ rfl,S.out.kb.cell 7 _ rfl⟩
def gu_need {s:ByteArray} {K:Unit->PM β} (T:Hid (res=rb N.length r (pbind (must1 L s) K))) (S:Hid (US b lb lo cap L m N nv W F r w)) (hs:(s.size:Int)<=100) (k:∀ r' w',Hid (res=rb N.length r' (K ()))->Hid (US b lb lo cap L m N nv W F r' w')->Q (.returned (.tuple #[])) w'):Calls prog 181 #[.pointer (some ⟨b,0,none⟩),.string s] w Q :=
 (uneed S.out s hs).mono fun e w' ⟨r',he,h1,h2⟩=>by subst he;exact k r' w' (J (h1.go T.out)) (J h2)
def gu_take {s:ByteArray} {K:Bool->PM β} (T:Hid (res=rb N.length r (pbind (takesP L s) K))) (S:Hid (US b lb lo cap L m N nv W F r w)) (hs:(s.size:Int)<=100) (k:∀ x r' w',Hid (res=rb N.length r' (K x))->Hid (US b lb lo cap L m N nv W F r' w')->Q (.returned (.bool x)) w'):Calls prog 185 #[.pointer (some ⟨b,0,none⟩),.string s] w Q :=
 (utake S.out s hs).mono fun e w' ⟨x,r',he,h1,h2⟩=>by subst he;exact k x r' w' (J (h1.go T.out)) (J h2)
def gu_expr {d:Int} {p:PM Int} {K:Int->PM β} (T:Hid (res=rb N.length r (pbind p K))) (S:Hid (US b lb lo cap L m N nv W F r w)) (hp:Hid (RDp b lb lo cap L 182 d p)) (k:∀ x r' w',Hid (res=rb N.length r' (K x))->Hid (US b lb lo cap L m N nv W F r' w')->Q (.returned (.int .i64 x)) w'):Calls prog 182 #[.pointer (some ⟨b,0,none⟩),.int .i64 d] w Q :=
 (uexpr S.out hp.out).mono fun e w' ⟨x,r',he,h1,h2⟩=>by subst he;exact k x r' w' (J (h1.go T.out)) (J h2)
def gu_braces {d:Int} {p:PM Int} {K:Int->PM β} (T:Hid (res=rb N.length r (pbind (qaC L p) K))) (S:Hid (US b lb lo cap L m N nv W F r w)) (hp:Hid (RDp b lb lo cap L 118 d p)) (k:∀ x r' w',Hid (res=rb N.length r' (K x))->Hid (US b lb lo cap L m N nv W F r' w')->Q (.returned (.int .i64 x)) w'):Calls prog 184 #[.pointer (some ⟨b,0,none⟩),.int .i64 d] w Q :=
 (ubraces S.out hp.out).mono fun e w' ⟨x,r',he,h1,h2⟩=>by subst he;exact k x r' w' (J (h1.go T.out)) (J h2)
def gu_turns {K:Int->PM β} (T:Hid (res=rb N.length r (pbind (qbo L) K))) (S:Hid (US b lb lo cap L m N nv W F r w)) (k:∀ x r' w',Hid (res=rb N.length r' (K x))->Hid (US b lb lo cap L m N nv W F r' w')->Q (.returned (.int .i64 x)) w'):Calls prog 186 #[.pointer (some ⟨b,0,none⟩)] w Q :=
 (uturns S.out).mono fun e w' ⟨x,r',he,h1,h2⟩=>by subst he;exact k x r' w' (J (h1.go T.out)) (J h2)
def gu_kind {K:Tok->PM β} (T:Hid (res=rb N.length r (pbind (ofP L 1) K))) (S:Hid (US b lb lo cap L m N nv W F r w)) (k:∀ (a x:Int) s i r' w',Hid (res=rb N.length r' (K ⟨x,s,i⟩))->Hid (US b lb lo cap L m N nv W F r' w')->Q (.returned (.agg #[.int .i64 x,.int .i64 a,.string s,.int .i64 i])) w'):Calls prog 179 #[.pointer (some ⟨b,0,none⟩),.int .i64 1] w Q :=
 (ukind S.out 1 zw).mono fun e w' ⟨a,x,s,i,r',he,h1,h2⟩=>by subst he;exact k a x s i r' w' (J (h1.go T.out)) (J h2)
def gu_new {x a c:Int} (S:Hid (US b lb lo cap L m N nv W F r w)) (k:∀ w',Hid (US b lb lo cap L m N nv W F r w')->Q (.returned (.agg #[.int .i64 x,.int .i64 a,.int .i64 c,.int .i64 (-1),.int .i64 (-1),.int .i64 0,.string ⟨#[]⟩,.string ⟨#[]⟩])) w'):Calls prog 180 #[.int .i64 x,.int .i64 a,.int .i64 c] w Q :=
 (qcx x a c w).mono fun e w' ⟨he,hx⟩=>by subst he;exact k w' (J (S.out.ext hx))
end
def rstmt_any {b lb lo cap:Nat} {nv:Value} {L:Toks} {m:Nat} {N:List Nd} {w:World} (h:Rt b lb lo cap nv L m N 0 0 w) (hbg:qba L m=true) (d:Nat) (hd:d<=16) (ex bk:PM Int) (he:RDp b lb lo cap L 182 (d:Int) ex) (hb:RDp b lb lo cap L 118 ((d:Int)+1) bk) (r:PR Int) (hr:stmtP L ex (qaC L bk) m N.length=r) :
  Calls prog 146 #[.pointer (some ⟨b,0,none⟩),.int .i64 (d:Int)] w (RPost intV isInt b lb lo cap nv L m N w r):=by
 have HE:=J he;have HB:=J hb;have hd0:0<=(d:Int):=Y;have hd1:(d:Int)<=16:=Y;have KD:=J (fun w1 hx=>qgk (h.ext (w1:=w1) hx) 5 zw _ (ofP_five (qda hbg)));have CS:=rst_cases hbg hr;obtain⟨⟨xk,ts,ti⟩,hts⟩:∃ t,(tk L m).1=t:=⟨_,rfl⟩
 obtain⟨ta,hta⟩:∃ t,(tk L m).2=t:=⟨_,rfl⟩
 rw[hts] at CS;rw[hts,hta] at KD;have KW:=J (Kp.refl b nv w);clear h he hb hd hbg hts hta hr;dsimp only at CS;rcases CS with ⟨k,(⟨hs,rfl⟩ | ⟨hs,rfl⟩),hr⟩ | ⟨hs,hr⟩ | ⟨k,(⟨hs,rfl⟩ | ⟨hs,rfl⟩ | ⟨hs,rfl⟩),hr⟩ | ⟨hs,hr⟩ | ⟨hs,hr⟩ | ⟨hs,hr⟩
 all_goals
  first | unfold qbE at hr | unfold putP at hr | unfold qaH at hr | unfold whenP at hr | unfold eachP at hr | unfold qdM at hr
  simp only[must3_bind,qfe] at hr;rw[qdP] at hr;have T:=J hr.symm;clear hr;go_enter func146,ntmps146;go_wp2_with fail;refine (KD.out _ zq).mono ?_;rintro e w1 ⟨he,nv1,hs1,hk,hm⟩;unfold tokV at he;dsimp only at he;subst he;have S:=J (US.start (hs1.cast (List.append_nil N)) ((KW.out.ext zq).trans hk));clear hs1 hk hm KD KW
  go_wp2_with (first
   | ((with_reducible refine gu_need T qa zw ?_);intro r w T S;try(obtain⟨lx,y,x0,x1,x2,x3,x4,x5,x6,x7⟩:=US.look S))
   | ((with_reducible refine gu_expr T qa HE ?_);intro x r w T S;try(obtain⟨lx,y,x0,x1,x2,x3,x4,x5,x6,x7⟩:=US.look S))
   | ((with_reducible refine gu_kind T qa ?_);intro a x s i r w T S;try(obtain⟨lx,y,x0,x1,x2,x3,x4,x5,x6,x7⟩:=US.look S))
   | ((with_reducible refine gu_new S ?_);intro w S)
   | ((with_reducible refine gu_braces T qa HB ?_);intro x r w T S;try(obtain⟨lx,y,x0,x1,x2,x3,x4,x5,x6,x7⟩:=US.look S))
   | ((with_reducible refine gu_turns T qa ?_);intro x r w T S;try(obtain⟨lx,y,x0,x1,x2,x3,x4,x5,x6,x7⟩:=US.look S))
   | ((with_reducible refine gu_take T qa zw ?_);intro x r w T S;try(obtain⟨lx,y,x0,x1,x2,x3,x4,x5,x6,x7⟩:=US.look S);cases x;rotate_left;have T:=J (show _=rb _ _ (pbind _ _) from T.out))
   | ((with_reducible refine Calls.mono (ulay (Hid.out qa) _ _ _ _ _ _ _ _) ?_);rintro e w ⟨z,r,rfl,hK,h⟩;have T:=J (hK.go (T.out.trans (congrArg _ (qel L _))));have S:=J h;clear hK h))
  all_goals
   go_ret;exact US.fin S.out T.out
end Go.Proofs.YtpnabjopfpdkhaaGreatDoor
namespace Go.Proofs.YtpnabjopfpdkhaaGreatDoor
open Tryz RowKit
attribute [go_sem] more_more Array.size_append
def stmt_none {L:Toks} {ex br:PM Int} {m n:Nat} (hbg:qba L m=false):stmtP L ex br m n=.ok (-1,m,[]):=by
 unfold stmtP sIs;by_cases hk:(tk L m).1.k=5
 . rw[if_neg (by rw[hk];simp)];unfold qba at hbg;rw[hk] at hbg
   have hn:∀ x∈nine,((tk L m).1.s.toList==x.toList)=false:=by
    have h2:nine.any (fun s=>(tk L m).1.s.toList==s.toList)=false:=(by simpa using hbg)
    rw[List.any_eq_false] at h2;intro x hx
    simpa using h2 x hx
   have e:nine.map (fun s=>s.toList)=[[108,101,116],[115,101,116],[112,117,116],[100,101,108,101,116,101],[97,98,111,114,116],[114,101,116,117,114,110],[105,102],[102,111,114],[114,101,112,101,97,116]]:=zv
   have hl:∀ y∈nine.map (fun s=>s.toList),((tk L m).1.s.toList==y)=false:=by
    intro y hy;obtain⟨x,hx,rfl⟩:=List.mem_map.1 hy;exact hn x hx
   rw[e] at hl;rw[if_neg (by rw[hl [108,101,116] zy];simp)];rw[if_neg (by rw[hl [115,101,116] zy];simp)];rw[if_neg (by rw[hl [112,117,116] zy];simp)];rw[if_neg (by rw[hl [100,101,108,101,116,101] zy];simp)];rw[if_neg (by rw[hl [97,98,111,114,116] zy];simp)];rw[if_neg (by rw[hl [114,101,116,117,114,110] zy];simp)];rw[if_neg (by rw[hl [105,102] zy];simp)];rw[if_neg (by rw[hl [102,111,114] zy];simp)];rw[if_neg (by rw[hl [114,101,112,101,97,116] zy];simp)];rfl
 . rw[if_pos hk];rfl
end Go.Proofs.YtpnabjopfpdkhaaGreatDoor
