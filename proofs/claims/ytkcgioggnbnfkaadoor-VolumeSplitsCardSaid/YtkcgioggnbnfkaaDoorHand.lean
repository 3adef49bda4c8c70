/- The texts of contracts by hand that the print's texts import. -/
import Derived.Test.YtkcgioggnbnfkaaDoorOct
import Derived.Test.YtkcgioggnbnfkaaDoorTxt
