/- The texts of contracts by hand that the print's texts import. -/
import Derived.Test.YtoabboeongbloaaDoorOct
import Derived.Test.YtoabboeongbloaaDoorTxt
import Derived.Test.YtoabboeongbloaaDoorMark
