/- The walks of scan.Name and of the reference's Name: both answer nameB. -/
import Derived.Test.YtlhhfcleioikoaaGreatDoorData
import Derived.Test.YtlhhfcleioikoaaGreatDoorShelf
import Derived.Lib.RuneCount
import Derived.Lib.OthersKept
namespace Go.Proofs.YtlhhfcleioikoaaGreatDoor
open Go.RowKit Go.Proofs Go.Lib
def Uni(w:World):Prop:=Lib.TabIs Tryz.prog w "unicode.properties" .u8 Lib.propertiesTab∧RVar 1 Lib.letterT w
theorem Uni.below{w w':World}(h:Uni w)(hb:Below w.heap.size w w'):Uni w':=⟨TabIs_below (g:=0) ZK h.1 hb,RVar_below h.2 hb⟩
def runesFrom(s:ByteArray):Nat→Nat→List Int
 |0,_=>[]
 |f+1,pos=>if pos<s.size then((Utf8.decode s pos).1:Int)::runesFrom s f (pos+(Utf8.decode s pos).2) else []
def runes(s:ByteArray):List Int:=runesFrom s s.size 0
theorem runesFrom_end{s:ByteArray}{f pos:Nat}(h:¬pos<s.size):runesFrom s f pos=[]:=by cases f<;>simp[runesFrom,h]
theorem runesFrom_cons{s:ByteArray}{f pos:Nat}(hf:s.size≤pos+f)(h:pos<s.size) :
 ∃f',f=f'+1∧s.size≤pos+(Utf8.decode s pos).2+f'∧runesFrom s f pos=((Utf8.decode s pos).1:Int)::runesFrom s f' (pos+(Utf8.decode s pos).2):=by
 cases f with
 |zero=>omega
 |succ f=>exact⟨f,rfl,by have:=Lib.decode_width_pos s pos h;omega,by simp[runesFrom,h]⟩
theorem runesFrom_length(s:ByteArray):∀f pos,(runesFrom s f pos).length≤f
 |0,_=>by simp[runesFrom]
 |f+1,pos=>by
  unfold runesFrom;split
  · simpa using runesFrom_length s f _
  · exact ZS
def letterB(c:Int):Bool:=Lib.isLetterU c&&decide (c≠65533)
def digitB(c:Int):Bool:=decide (48≤c)&&decide (c≤57)
def innerB(c:Int):Bool:=letterB c||digitB c||decide (c=46)||decide (c=95)
def firstOk(l:List Int):Bool:=match l with|[]=>true|c::_=>letterB c
def goodRunes(l:List Int):Bool:=firstOk l&&l.all innerB
def nameB(s:ByteArray):Bool:=goodRunes (runes s)&&decide (1≤(runes s).length)&&decide ((runes s).length≤16)
theorem inner_of_letter{c:Int}(h:letterB c=true):innerB c=true:=by simp[innerB,h]
theorem good_snoc{pre:List Int}{c:Int}(h:goodRunes pre=true)(h1:pre=[]→letterB c=true)(h2:innerB c=true):goodRunes (pre++[c])=true:=by
 cases pre with
 |nil=>simp[goodRunes,firstOk,h1 rfl,h2]
 |cons a r=>simp[goodRunes,firstOk]at h ⊢;exact⟨h.1,h.2.1,h.2.2,h2⟩
theorem good_bad{pre post:List Int}{c:Int}(h:(pre=[]∧letterB c=false)∨innerB c=false):goodRunes (pre++c::post)=false:=by
 rcases h with⟨rfl,h⟩|h
 · simp[goodRunes,firstOk,h]
 · simp[goodRunes,h]
theorem letter_calls{W w:World}(hU:Uni W)(hW:Below W.heap.size W w)(c:Int)(h0:-2147483648≤c)(h1:c≤2147483647) :
 Calls Tryz.prog 193 #[.int .i32 c] w fun e w'=>e=.returned (.bool (letterB c))∧Below w.heap.size w w':=by
 have hU':=hU.below hW;cases hl:Lib.isLetterU c
 all_goals
  have hc:=Tryz.unicode_IsLetter_all c w h0 h1 hU'.1 hU'.2;rw[hl]at hc;go_enter Tryz.func193,Tryz.ntmps193;go_wp2_with(go_at_call 133;refine hc.mono ?_;rintro e w1 ⟨rfl,hb⟩);go_ret;exact⟨ret_bool' (by simp[letterB,hl]),hb⟩
theorem digit_calls{w:World}(c:Int) :
 Calls Tryz.prog 200 #[.int .i32 c] w fun e w'=>e=.returned (.bool (digitB c))∧w=w':=by
 by_cases h0:48≤c
 all_goals
  go_enter Tryz.func200,Tryz.ntmps200;go_wp2;go_ret;exact⟨ret_bool' (by simp[digitB]<;>omega),rfl⟩
theorem inner_calls{W w:World}(hU:Uni W)(hW:Below W.heap.size W w)(c:Int)(h0:-2147483648≤c)(h1:c≤2147483647) :
 Calls Tryz.prog 194 #[.int .i32 c] w fun e w'=>e=.returned (.bool (innerB c))∧Below w.heap.size w w':=by
 have hc:=letter_calls hU hW c h0 h1;cases hl:letterB c
 · rw[hl]at hc
   by_cases d0:digitB c=true
   · go_enter Tryz.func194,Tryz.ntmps194
     go_wp2_with(first|(go_at_call 193;refine hc.mono ?_;rintro e w1 ⟨rfl,hb⟩)|(go_at_call 200;refine(digit_calls c).mono ?_;rintro e w2 ⟨rfl,rfl⟩));go_ret;exact⟨ret_bool' (by simp[innerB,hl,d0]),hb⟩
   · rw[Bool.not_eq_true]at d0
     have hd:=digit_calls (w:=w) c
     by_cases d1:c=46
     · subst d1
       go_enter Tryz.func194,Tryz.ntmps194;go_wp2_with(first|(go_at_call 193;refine hc.mono ?_;rintro e w1 ⟨rfl,hb⟩)|(go_at_call 200;refine(digit_calls _).mono ?_;rintro e w2 ⟨rfl,rfl⟩));go_ret;exact⟨ret_bool' (by simp[innerB]),hb⟩
     · go_enter Tryz.func194,Tryz.ntmps194
       go_wp2_with(first|(go_at_call 193;refine hc.mono ?_;rintro e w1 ⟨rfl,hb⟩)|(go_at_call 200;refine(digit_calls c).mono ?_;rintro e w2 ⟨rfl,rfl⟩));go_ret;exact⟨ret_bool' (by simp[innerB,hl,d0,d1]),hb⟩
 · rw[hl]at hc
   go_enter Tryz.func194,Tryz.ntmps194;go_wp2_with(go_at_call 193;refine hc.mono ?_;rintro e w1 ⟨rfl,hb⟩);go_ret;exact⟨ret_bool' (by simp[innerB,hl]),hb⟩
theorem runes_calls{w:World}(s:ByteArray)(hs:s.size≤maxLen) :
 Calls Tryz.prog 195 #[.string s] w fun e w'=>e=.returned (.int .i64 (runes s).length)∧Below w.heap.size w w':=by
 unfold maxLen at hs;go_enter Tryz.func195,Tryz.ntmps195;go_wp2
 go_loopw[3] (fun n wr=>∃(pos f k:Nat),n=.int .i64 k∧wr.heap[w.heap.size]?=some (.stringIter s pos)∧Below w.heap.size w wr∧Hid ((runes s).length=k+(runesFrom s f pos).length)∧s.size≤pos+f∧k≤pos) (fun _ wr=>s.size-wr.iterPos w.heap.size)
 case atStart=>exact⟨0,s.size,0,rfl,World.iter_heap _ _ _,(Below.refl _ _).alloc (Nat.le_refl _) _,by simp[Hid,runes],ZO,ZO⟩
 case round=>
  obtain⟨pos,f,k,rfl,hit,hb,hr,hf,hk⟩:=hrel
  by_cases hlt:pos<s.size
  · have hnx:∀ty,(Instr.next (.pointer (some ⟨w.heap.size,0,none⟩)) true ty).run Tryz.prog wr=_:=fun ty=>Lib.run_next_any_at wr w.heap.size s pos ty hit hlt
    obtain⟨f',rfl,hf',he⟩:=runesFrom_cons hf hlt;have hw1:=Lib.decode_width_pos s pos hlt;have HE:=Lib.hid he;clear he;go_wp2;go_roundw
    case rel=>exact⟨pos+(Utf8.decode s pos).2,f',k+1,ZN,Lib.iterAt_heap _ _ _ _ _ hit,Lib.below_iterAt hb (Nat.le_refl _) _ _,by unfold Hid;rw[hr.out,HE.out];simp;omega,hf',ZO⟩
    case measure=>simp[iterPos_of (Lib.iterAt_heap _ _ _ _ _ hit),iterPos_of hit];omega
  · have hnx:∀ty,(Instr.next (.pointer (some ⟨w.heap.size,0,none⟩)) true ty).run Tryz.prog wr=_:=fun ty=>Lib.run_next_end_at wr w.heap.size s pos ty hit hlt
    have he:=Lib.hid (runesFrom_end (f:=f) hlt);go_wp2;go_ret;exact⟨ret_int (by rw[hr.out,he.out];simp),hb⟩
theorem nameB_bad{s:ByteArray}(h:goodRunes (runes s)=false):nameB s=false:=by simp[nameB,h]
theorem nameB_good{s:ByteArray}(h:goodRunes (runes s)=true):nameB s=(decide (1≤(runes s).length)&&decide ((runes s).length≤16)):=by simp[nameB,h]
theorem toList_empty{s:ByteArray}:s.toList.isEmpty=true↔s.size=0:=by
 rw[List.isEmpty_iff_length_eq_zero,Lib.toList_data];exact Iff.rfl
theorem runes_nil{s:ByteArray}(h:s.toList.isEmpty=true):runes s=[]:=by
 rw[toList_empty]at h;unfold runes;exact runesFrom_end ZO
theorem runes_ne{s:ByteArray}(h:s.toList.isEmpty=false):1≤(runes s).length:=by
 have h0:0<s.size:=by
  rcases Nat.eq_zero_or_pos s.size with h0|h0
  · rw[toList_empty.2 h0]at h;cases h
  · exact h0
 obtain⟨f',_,_,he⟩:=runesFrom_cons (s:=s) (f:=s.size) (pos:=0) ZO h0;unfold runes;rw[he];simp
set_option maxHeartbeats 400000 in
theorem name_calls{W w:World}(hU:Uni W)(hW:Below W.heap.size W w)(s:ByteArray)(hs:s.size≤maxLen) :
 Calls Tryz.prog 185 #[.string s] w fun e w'=>e=.returned (.bool (nameB s))∧Below w.heap.size w w':=by
 unfold maxLen at hs;go_enter Tryz.func185,Tryz.ntmps185;go_wp2
 go_loopw[3] (fun _ wr=>∃(pos f:Nat) (pre:List Int),wr.heap[w.heap.size]?=some (.stringIter s pos)∧Below w.heap.size w wr∧Hid (runes s=pre++runesFrom s f pos)∧s.size≤pos+f∧Hid (goodRunes pre=true)∧(pos=0↔pre=[])) (fun _ wr=>s.size-wr.iterPos w.heap.size)
 case atStart=>exact⟨0,s.size,[],World.iter_heap _ _ _,(Below.refl _ _).alloc (Nat.le_refl _) _,by simp[Hid,runes],ZO,by simp[Hid,goodRunes,firstOk],ZS⟩
 case round=>
  obtain⟨pos,f,pre,hit,hb,hr,hf,hg,hp⟩:=hrel
  by_cases hlt:pos<s.size
  · have hnx:∀ty,(Instr.next (.pointer (some ⟨w.heap.size,0,none⟩)) true ty).run Tryz.prog wr=_:=fun ty=>Lib.run_next_any_at wr w.heap.size s pos ty hit hlt
    obtain⟨f',rfl,hf',he⟩:=runesFrom_cons hf hlt;have hw1:=Lib.decode_width_pos s pos hlt;have HE:=Lib.hid he;have hcl:=decode_le s pos;have hit1:=Lib.hid (Lib.iterAt_heap wr w.heap.size s pos (pos+(Utf8.decode s pos).2) hit);have hb1:=Lib.below_iterAt hb (Nat.le_refl w.heap.size) s (pos+(Utf8.decode s pos).2);have hWw1:=hW.trans (hb1.mono hW.size);have HP:=Lib.hid hp;have hsz:=Lib.iterAt_size wr w.heap.size s (pos+(Utf8.decode s pos).2);have hsz2:=hb.size;have hsz3:w.heap.size<wr.heap.size:=(Array.getElem?_eq_some_iff.1 hit).1;clear he hp hW
    by_cases hp0:pos=0
    · subst hp0
      rw[Nat.zero_add]at hit1 hb1 hWw1 hsz;cases hl:letterB ((Utf8.decode s 0).1:Int)
      · have hc:=letter_calls hU hWw1 ((Utf8.decode s 0).1:Int) ZO ZO
        rw[hl]at hc;have hfin:nameB s=false:=nameB_bad (by rw[hr.out,HE.out];exact good_bad (.inl ⟨HP.out.1 rfl,hl⟩));have HF:=Lib.hid hfin;have HL:=Lib.hid hl;clear hl hfin;go_wp2_with(go_at_call 193;refine hc.mono ?_;rintro e w1 ⟨rfl,hb2⟩);go_ret;exact⟨ret_bool HF.out.symm,hb1.trans (hb2.mono hb1.size)⟩
      · have hc:=letter_calls hU hWw1 ((Utf8.decode s 0).1:Int) ZO ZO
        rw[hl]at hc;have HL:=Lib.hid hl;clear hl;go_wp2_with(first|(go_at_call 193;refine hc.mono ?_;rintro e w1 ⟨rfl,hb2⟩)|(go_at_call 194;have hc3:=inner_calls hU (hWw1.trans (hb2.mono hWw1.size)) ((Utf8.decode s 0).1:Int) ZO ZO;rw[inner_of_letter HL.out]at hc3;refine hc3.mono ?_;rintro e w2 ⟨rfl,hb3⟩));go_roundw
        case rel=>exact⟨_,f',pre++[((Utf8.decode s 0).1:Int)],(hb3.block _ (by have:=hb2.size;omega)).trans ((hb2.block _ ZO).trans hit1.out),hb1.trans ((hb2.mono hb1.size).trans (hb3.mono (by have:=hb2.size;omega))),by unfold Hid;rw[hr.out,HE.out];simp,by simpa using hf',by unfold Hid;exact good_snoc hg.out (fun _=>HL.out) (inner_of_letter HL.out),ZX⟩
        case measure=>simp[iterPos_of ((hb3.block w.heap.size (by have:=hb2.size;omega)).trans ((hb2.block _ ZO).trans hit1.out)),iterPos_of hit];omega
    · cases hl:innerB ((Utf8.decode s pos).1:Int)
      · have hc:=inner_calls hU hWw1 ((Utf8.decode s pos).1:Int) ZO ZO
        rw[hl]at hc;have hfin:nameB s=false:=nameB_bad (by rw[hr.out,HE.out];exact good_bad (.inr hl));have HF:=Lib.hid hfin;have HL:=Lib.hid hl;clear hl hfin;go_wp2_with(go_at_call 194;refine hc.mono ?_;rintro e w1 ⟨rfl,hb2⟩);go_ret;exact⟨ret_bool HF.out.symm,hb1.trans (hb2.mono hb1.size)⟩
      · have hc:=inner_calls hU hWw1 ((Utf8.decode s pos).1:Int) ZO ZO
        rw[hl]at hc;have HL:=Lib.hid hl;clear hl;go_wp2_with(go_at_call 194;refine hc.mono ?_;rintro e w1 ⟨rfl,hb2⟩);go_roundw
        case rel=>exact⟨_,f',pre++[((Utf8.decode s pos).1:Int)],(hb2.block _ ZO).trans hit1.out,hb1.trans (hb2.mono hb1.size),by unfold Hid;rw[hr.out,HE.out];simp,hf',by unfold Hid;exact good_snoc hg.out (fun h=>absurd (HP.out.2 h) hp0) HL.out,ZX⟩
        case measure=>simp[iterPos_of ((hb2.block w.heap.size ZO).trans hit1.out),iterPos_of hit];omega
  · have hnx:∀ty,(Instr.next (.pointer (some ⟨w.heap.size,0,none⟩)) true ty).run Tryz.prog wr=_:=fun ty=>Lib.run_next_end_at wr w.heap.size s pos ty hit hlt
    have he:=Lib.hid (runesFrom_end (f:=f) hlt);have HG:=Lib.hid (show goodRunes (runes s)=true by rw[hr.out,he.out];simpa using hg.out);clear hp;cases h0:s.toList.isEmpty
    · have HR:=Lib.hid (runes_ne h0)
      go_wp2_with(go_at_call 195;refine(runes_calls s (by unfold maxLen;exact hs)).mono ?_;rintro e w1 ⟨rfl,hb2⟩);go_ret;exact⟨ret_bool' (by simp only[nameB_good HG.out,Bool.and_eq_true,decide_eq_true_eq];have:=HR.out;omega),hb.trans (hb2.mono hb.size)⟩
    · have HR:=Lib.hid (runes_nil h0)
      go_wp2;go_ret;exact⟨ret_bool (by rw[nameB_good HG.out,HR.out];rfl),hb⟩
theorem letterB_split{c:Int}(h:letterB c=false):Lib.isLetterU c=false∨(Lib.isLetterU c=true∧c=65533):=by
 cases hl:Lib.isLetterU c
 · exact .inl rfl
 · refine .inr ⟨rfl,?_⟩
   simpa[letterB,hl]using h
set_option maxHeartbeats 1000000 in
theorem refName_calls{W w:World}(hU:Uni W)(hW:Below W.heap.size W w)(s:ByteArray)(hs:s.size≤maxLen) :
 Calls Tryz.prog 113 #[.string s] w fun e w'=>e=.returned (.bool (nameB s))∧Below w.heap.size w w':=by
 unfold maxLen at hs;go_enter Tryz.func113,Tryz.ntmps113;go_wp2
 go_loopw[3] (fun n wr=>∃(pos f:Nat) (pre:List Int),n=.int .i64 pre.length∧wr.heap[w.heap.size]?=some (.stringIter s pos)∧Below w.heap.size w wr∧Hid (runes s=pre++runesFrom s f pos)∧s.size≤pos+f∧Hid (goodRunes pre=true)∧pre.length≤pos) (fun _ wr=>s.size-wr.iterPos w.heap.size)
 case atStart=>exact⟨0,s.size,[],rfl,World.iter_heap _ _ _,(Below.refl _ _).alloc (Nat.le_refl _) _,by simp[Hid,runes],ZO,by simp[Hid,goodRunes,firstOk],ZS⟩
 case round=>
  obtain⟨pos,f,pre,rfl,hit,hb,hr,hf,hg,hp⟩:=hrel
  by_cases hlt:pos<s.size
  · obtain⟨f',rfl,hf',he⟩:=runesFrom_cons hf hlt
    have hw1:=Lib.decode_width_pos s pos hlt;have hnx:∀ty,(Instr.next (.pointer (some ⟨w.heap.size,0,none⟩)) true ty).run Tryz.prog wr=_:=fun ty=>Lib.run_next_any_at wr w.heap.size s pos ty hit hlt
    have hcl:=decode_le s pos;have HE:=Lib.hid he;have hc0:0≤((Utf8.decode s pos).1:Int):=by omega
    have hc1:((Utf8.decode s pos).1:Int)≤2147483647:=by omega
    clear he hcl;generalize ((Utf8.decode s pos).1:Int)=c at *;have hit1:=Lib.hid (Lib.iterAt_heap wr w.heap.size s pos (pos+(Utf8.decode s pos).2) hit);have hb1:=Lib.below_iterAt hb (Nat.le_refl w.heap.size) s (pos+(Utf8.decode s pos).2);have hWw1:=hW.trans (hb1.mono hW.size);have hUw1:=hU.below hWw1;have hc:=Tryz.unicode_IsLetter_all c (wr.iterAt w.heap.size s (pos+(Utf8.decode s pos).2)) ZO ZO hUw1.1 hUw1.2;have hsz:=Lib.iterAt_size wr w.heap.size s (pos+(Utf8.decode s pos).2);have hsz2:=hb.size;have hsz3:w.heap.size<wr.heap.size:=(Array.getElem?_eq_some_iff.1 hit).1;have REL:∀w1,Below (wr.iterAt w.heap.size s (pos+(Utf8.decode s pos).2)).heap.size (wr.iterAt w.heap.size s (pos+(Utf8.decode s pos).2)) w1→innerB c=true→(pre=[]→letterB c=true)→
     (∃(pos f:Nat) (pre':List Int),Value.int .i64 ((pre.length:Int)+1)=Value.int .i64 pre'.length∧w1.heap[w.heap.size]?=some (.stringIter s pos)∧Below w.heap.size w w1∧Hid (runes s=pre'++runesFrom s f pos)∧s.size≤pos+f∧Hid (goodRunes pre'=true)∧pre'.length≤pos)∧s.size-w1.iterPos w.heap.size<s.size-wr.iterPos w.heap.size:=by
     intro w1 hb2 hi hl;have hx:=(hb2.block w.heap.size ZO).trans hit1.out;refine⟨⟨_,f',pre++[c],ZS,hx,hb1.trans (hb2.mono hb1.size),by unfold Hid;rw[hr.out,HE.out];simp,hf',by unfold Hid;exact good_snoc hg.out hl hi,ZX⟩,?_⟩;rw[iterPos_of hx,iterPos_of hit];omega
    have REL':=Lib.hid REL;have BAD:=Lib.hid (show((pre=[]∧letterB c=false)∨innerB c=false)→nameB s=false from fun h=>nameB_bad (by rw[hr.out,HE.out];exact good_bad h));clear REL hit1 hUw1;cases hl:letterB c
    · rcases letterB_split hl with hu|⟨hu,rfl⟩
      · rw[hu]at hc
        have HL:=Lib.hid hl;clear hl hu;rcases Nat.eq_zero_or_pos pre.length with hn|hn
        · have hn0:((pre.length:Int)==0)=true:=by simp;exact List.eq_nil_of_length_eq_zero hn
          have HF:=Lib.hid (BAD.out (.inl ⟨List.eq_nil_of_length_eq_zero hn,HL.out⟩));clear hn;go_wp2_with(go_at_call 133;refine hc.mono ?_;rintro e w1 ⟨rfl,hb2⟩);go_ret;exact⟨ret_bool HF.out.symm,hb1.trans (hb2.mono hb1.size)⟩
        · have hn0:((pre.length:Int)==0)=false:=by rw[beq_eq_false_iff_ne];omega
          have hne:pre≠[]:=by rintro rfl;simp at hn
          have HN:=Lib.hid hne;clear hne;cases hi:innerB c
          · have HF:=Lib.hid (BAD.out (.inr hi))
            have hd:¬(48≤c∧c≤57)∧c≠46∧c≠95:=by simp[innerB,HL.out,digitB]at hi;omega
            clear hi;obtain⟨d0,d1,d2⟩:=hd;have e1:(c !=46)=true:=by simpa using d1
            have e2:(c !=95)=true:=by simpa using d2
            by_cases d3:c<48
            · clear d0
              go_wp2_with(go_at_call 133;refine hc.mono ?_;rintro e w1 ⟨rfl,hb2⟩);go_ret;exact⟨ret_bool HF.out.symm,hb1.trans (hb2.mono hb1.size)⟩
            · have e3:decide (c≤57)=false:=by simp;omega
              clear d0;go_wp2_with(go_at_call 133;refine hc.mono ?_;rintro e w1 ⟨rfl,hb2⟩);go_ret;exact⟨ret_bool HF.out.symm,hb1.trans (hb2.mono hb1.size)⟩
          · have HI:=Lib.hid hi
            have hd:(48≤c∧c≤57)∨c=46∨c=95:=by simp[innerB,HL.out,digitB]at hi;omega
            clear hi;rcases hd with⟨d0,d1⟩|rfl|rfl
            all_goals
             go_wp2_with(go_at_call 133;refine hc.mono ?_;rintro e w1 ⟨rfl,hb2⟩);go_roundw
             case rel=>exact(REL'.out _ hb2 HI.out (fun h=>absurd h HN.out)).1
             case measure=>exact(REL'.out _ hb2 HI.out (fun h=>absurd h HN.out)).2
      · rw[hu]at hc
        have HF:=Lib.hid (BAD.out (.inr (by simp[innerB,hl,digitB])));clear hl hu;rcases Nat.eq_zero_or_pos pre.length with hn|hn
        · have hn0:((pre.length:Int)==0)=true:=by simp;exact List.eq_nil_of_length_eq_zero hn
          clear hn;go_wp2_with(go_at_call 133;refine hc.mono ?_;rintro e w1 ⟨rfl,hb2⟩);go_ret;exact⟨ret_bool HF.out.symm,hb1.trans (hb2.mono hb1.size)⟩
        · have hn0:((pre.length:Int)==0)=false:=by rw[beq_eq_false_iff_ne];omega
          go_wp2_with(go_at_call 133;refine hc.mono ?_;rintro e w1 ⟨rfl,hb2⟩);go_ret;exact⟨ret_bool HF.out.symm,hb1.trans (hb2.mono hb1.size)⟩
    · have HL:=Lib.hid hl
      have hu:Lib.isLetterU c=true∧c≠65533:=by simpa[letterB]using hl
      obtain⟨hu,hne⟩:=hu;rw[hu]at hc;clear hl hu;go_wp2_with(go_at_call 133;refine hc.mono ?_;rintro e w1 ⟨rfl,hb2⟩);go_roundw
      case rel=>exact(REL'.out _ hb2 (inner_of_letter HL.out) (fun _=>HL.out)).1
      case measure=>exact(REL'.out _ hb2 (inner_of_letter HL.out) (fun _=>HL.out)).2
  · have hnx:∀ty,(Instr.next (.pointer (some ⟨w.heap.size,0,none⟩)) true ty).run Tryz.prog wr=_:=fun ty=>Lib.run_next_end_at wr w.heap.size s pos ty hit hlt
    have he:=Lib.hid (runesFrom_end (f:=f) hlt);have HR:=Lib.hid (show runes s=pre by rw[hr.out,he.out];simp)
    by_cases h1:1≤(pre.length:Int)
    all_goals
     go_wp2;go_ret;exact⟨ret_bool' (by simp[nameB,HR.out,hg.out]<;>omega),hb⟩
end Go.Proofs.YtlhhfcleioikoaaGreatDoor
